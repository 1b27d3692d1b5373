/-
  Lemmas for PqOpens: ArP, Ar, Ar2, Pq, Chk, PqO, Pq2, Pq3, Pq4, Pq5, PqN. Conditions: those of each lemma.
-/
import Derived.Deep.RegionLaw
import Derived.Deep.DeepCutAuto
import Derived.Test.YtnpdakpagnpanaaGreatD01
set_option linter.all false
set_option maxHeartbeats 8000000
set_option maxRecDepth 10000
namespace Go.Proofs.YtnpdakpagnpanaaGreat
open Go Go.RowKit
structure AR where
 sl:List (Nat×Bool)
 wait:List Nat
 next:Nat
 most:Nat
def AR.g (R:AR) (x:Nat):Nat:=(R.sl.getD x (0,false)).1
def AR.v (R:AR) (x:Nat):Bool:=(R.sl.getD x (0,false)).2
def rM (l:List (Nat×Bool)):Nat:=(l.filter (λp=>p.2)).length
def AR.cnt (R:AR):Nat:=rM R.sl
structure AR.Ok (R:AR):Prop where
 n:R.sl.length<=65536
 nx:R.next<=R.sl.length
 G8:1<=R.most/\R.most<=4294967295
 wt:∀x,x∈R.wait->x<R.next/\R.v x=false/\R.g x<R.most
 nd:R.wait.Nodup
 fresh:∀x,R.next<=x->R.g x=0/\R.v x=false
 lv:∀x,R.v x=true->1<=R.g x
 gm:∀x,R.g x<=R.most
def AR.new (n most:Nat):AR:=⟨List.replicate n (0,false),[],0,most⟩
def AR.put (R:AR) (x:Nat) (p:Nat×Bool):AR:={ R with sl:=R.sl.set x p }
def iL (R:AR):Option (Nat×AR):=
 match R.wait.getLast? with
 | some x=>some (x,{ R with wait:=R.wait.dropLast })
 | none=>if R.next=R.sl.length then none else some (R.next,{ R with next:=R.next+1 })
def iH (R:AR):Option (Nat×AR):=(iL R).map λp=>(p.1,p.2.put p.1 (R.g p.1+1,true))
def wB (R:AR) (x g:Int):Bool:=decide (0<=x) && decide (x<R.sl.length) && decide ((R.g x.toNat:Int)=g) && R.v x.toNat
section
variable {R:AR}
theorem AR.rD (x:Nat) (p:Nat×Bool) (y:Nat):(R.put x p).g y=if y=x/\x<R.sl.length then p.1 else R.g y:=by
 unfold AR.put AR.g;simp only [φ,ύ]
 by_cases h:x=y
 ·subst h
  by_cases hl:x<R.sl.length
  ·simp [hl]
  ·simp [hl]
 ·rw [Γ h,Γ (λe=>h e.1.symm)]
theorem AR.r9 (x:Nat) (p:Nat×Bool) (y:Nat):(R.put x p).v y=if y=x/\x<R.sl.length then p.2 else R.v y:=by
 unfold AR.put AR.v;simp only [φ,ύ]
 by_cases h:x=y
 ·subst h
  by_cases hl:x<R.sl.length
  ·simp [hl]
  ·simp [hl]
 ·rw [Γ h,Γ (λe=>h e.1.symm)]
theorem AR.far {x:Nat} (hx:R.sl.length<=x):R.g x=0/\R.v x=false:=by
 unfold AR.g AR.v;rw [φ,List.getElem?_eq_none hx];exact ⟨rfl,rfl⟩
theorem AR.kW (x:Nat) (p:Nat×Bool):(R.put x p).sl.length=R.sl.length:=by unfold AR.put;simp
theorem AR.Ho {x:Nat} (h:R.v x=true):x<R.sl.length:=by
 rcases ϑ x R.sl.length with h'|h'
 ·exact h'
 ·rw [(AR.far h').2] at h;cases h
theorem ji (q:Nat×Bool) (r:List (Nat×Bool)):rM (q::r)=rM r+if q.2 then 1 else 0:=by
 unfold rM;rw [List.filter_cons];cases h:q.2<;>simp
theorem rH:∀ (l:List (Nat×Bool)) (x:Nat) (p:Nat×Bool),x<l.length->rM (l.set x p)+(if (l.getD x (0,false)).2 then 1 else 0)=rM l+(if p.2 then 1 else 0)
 | [],x,p,h=>by simp at h
 | q::r,0,p,h=>by
  rw [List.set_cons_zero,ji,ji]
  show _+_+(if q.2 then 1 else 0)=_
  omega
 | q::r,x+1,p,h=>by
  have ih:=rH r x p (by simpa using h);rw [List.set_cons_succ,ji,ji,List.getD_cons_succ];omega
theorem Dw (l:List (Nat×Bool)):rM l<=l.length:=List.length_filter_le _ _
theorem AR.wN (x:Nat) (p:Nat×Bool) (hx:x<R.sl.length):(R.put x p).cnt+(if R.v x then 1 else 0)=R.cnt+(if p.2 then 1 else 0):=rH R.sl x p hx
theorem AR.Dp (h:R.Ok):R.wait.length<=R.next:=by
 have key:∀ (n:Nat) (l:List Nat),l.Nodup->(∀x,x∈l->x<n)->l.length<=n:=by
  intro n
  induction n with
  | zero=>
   intro l _ h;cases l with
   | nil=>simp
   | cons x r=>have:=h x σ;omega
  | succ n ih=>
   intro l hn h
   have h1:=ih (l.erase n) (hn.erase _) (λx hx=>by
    have h2:=(List.Nodup.mem_erase_iff hn).1 hx;have:=h x h2.2
    omega)
   have h2:=List.length_erase_le (a:=n) (l:=l);have h3:l.length<=(l.erase n).length+1:=by
    by_cases hm:n∈l
    ·rw [List.length_erase_of_mem hm];omega
    ·rw [List.erase_of_not_mem hm];omega
   omega
 exact key _ _ h.nd (λx hx=>(h.wt x hx).1)
theorem AR.uj {n most:Nat} (hn:n<=65536) (hm:1<=most/\most<=4294967295):(AR.new n most).Ok:=by
 have e:∀x,(AR.new n most).g x=0/\(AR.new n most).v x=false:=λx=>by
  unfold AR.new AR.g AR.v;simp only [φ,List.getElem?_replicate]
  split<;>exact ⟨rfl,rfl⟩
 refine ⟨by simp [AR.new];exact hn,by simp [AR.new],hm,λx hx=>by simp [AR.new] at hx,by simp [AR.new],λx _=>e x,λx hx=>?_,λx=>?_⟩
 ·rw [(e x).2] at hx;cases hx
 ·rw [(e x).1];exact Nat.zero_le _
theorem AR.wm (n most:Nat):(AR.new n most).cnt=0:=by
 unfold AR.cnt rM AR.new;simp
theorem lI {x:Nat} {R':AR} (h:R.Ok) (hp:iL R=some (x,R')):x<R.sl.length/\R.v x=false/\R.g x<R.most/\R'.sl=R.sl/\R'.most=R.most/\R'.next<=R.sl.length/\x<R'.next/\R.next<=R'.next/\
  (∀y,y∈R'.wait->y∈R.wait/\y≠x)/\R'.wait.Nodup:=by
 unfold iL at hp;cases hl:R.wait.getLast? with
 | some y=>
  rw [hl] at hp;simp only [ϒ,Prod.mk.injEq] at hp;obtain ⟨rfl,rfl⟩:=hp;have hm:y∈R.wait:=List.mem_of_getLast? hl;obtain ⟨h1,h2,h3⟩:=h.wt y hm;have hn:=h.nd;have happ:R.wait=R.wait.dropLast++[y]:=by
   obtain ⟨l,hl'⟩:=List.getLast?_eq_some_iff.1 hl;rw [hl'];simp
  rw [happ,θ] at hn;refine ⟨Ψ h1 h.nx,h2,h3,rfl,rfl,h.nx,h1,Θ _,λz hz=>⟨List.dropLast_subset _ hz,λe=>?_⟩,hn.1⟩;exact hn.2.2 z hz y σ e
 | none=>
  rw [hl] at hp;have hw:R.wait=[]:=List.getLast?_eq_none_iff.1 hl;dsimp only at hp
  split at hp
  ·cases hp
  ·rename_i hne
   simp only [ϒ,Prod.mk.injEq] at hp;obtain ⟨rfl,rfl⟩:=hp;have h1:=h.nx;have h2:=h.fresh R.next (Θ _);refine ⟨ω,h2.2,by rw [h2.1];exact h.G8.1,rfl,rfl,by show R.next+1<=_;omega,by show R.next<R.next+1;omega,by show R.next<=R.next+1;omega,λy hy=>?_,h.nd⟩;rw [show ({ R with next:=R.next+1 }:AR).wait=R.wait from rfl,hw] at hy;cases hy
theorem qw {x:Nat} {R':AR} (h:R.Ok) (hp:iH R=some (x,R')):R'.Ok/\x<R.sl.length/\R.v x=false/\R.g x<R.most/\R'.sl=R.sl.set x (R.g x+1,true)/\R'.most=R.most/\R'.cnt=R.cnt+1:=by
 unfold iH at hp;cases hq:iL R with
 | none=>rw [hq] at hp;cases hp
 | some q=>
  obtain ⟨y,R1⟩:=q;rw [hq] at hp;simp only [Option.map_some,ϒ,Prod.mk.injEq] at hp;obtain ⟨rfl,rfl⟩:=hp;obtain ⟨h1,h2,h3,h4,h5,h6,h7,h8,h9,h10⟩:=lI h hq;have eg:∀z,R1.g z=R.g z:=λz=>by unfold AR.g;rw [h4]
  have ev:∀z,R1.v z=R.v z:=λz=>by unfold AR.v;rw [h4]
  have hl:y<R1.sl.length:=by rw [h4];exact h1
  refine ⟨⟨by rw [AR.kW,h4];exact h.n,by rw [AR.kW,h4];exact h6,by show 1<=R1.most/\R1.most<=4294967295;rw [h5];exact h.G8,λz hz=>?_,h10,λz hz=>?_,λz hz=>?_,λz=>?_⟩,h1,h2,h3,by show R1.sl.set _ _=_;rw [h4],h5,?_⟩
  ·obtain ⟨a1,a2⟩:=h9 z hz;obtain ⟨b1,b2,b3⟩:=h.wt z a1;rw [AR.r9,AR.rD,Γ (λe=>a2 e.1),Γ (λe=>a2 e.1),ev,eg];refine ⟨Ψ b1 h8,b2,?_⟩
   show R.g z<R1.most
   rw [h5];exact b3
  ·have hz':R1.next<=z:=hz;rw [AR.r9,AR.rD,Γ ω,Γ ω,ev,eg];exact h.fresh z ω
  ·rw [AR.r9] at hz;rw [AR.rD]
   by_cases e:z=y/\y<R1.sl.length
   ·rw [Δ e];show 1<=R.g y+1;omega
   ·rw [Γ e] at hz ⊢;rw [ev] at hz;rw [eg];exact h.lv z hz
  ·rw [AR.rD]
   show _<=R1.most
   rw [h5]
   split
   ·show R.g y+1<=_;omega
   ·rw [eg];exact h.gm z
  ·have hc:=AR.wN (R:=R1) y (R.g y+1,true) hl;rw [ev,h2] at hc;simp at hc;rw [hc];unfold AR.cnt;rw [h4]
end
theorem dW {c:Code} {K:Exit->Act->World->Prop} {a:Act} {W:World} (R:World->Prop) (h:R W) (k:∀W',R W'->Code.wp Tryz.prog c K a W'):Code.wp Tryz.prog c K a W:=k W h
def BH (R:AR) (j:Nat):Value:=if j % 2=0 then .int .u32 (R.g (j / 2):Int) else .bool (R.v (j / 2))
def GR (ga:Nat) (v:Value) (R:AR) (j:Nat):Value:=[Value.slice (some ⟨ga,0,none⟩) R.sl.length R.sl.length,v,.int .i64 (R.next:Int),.int .i64 (R.cnt:Int),.int .u32 (R.most:Int)].getD j undef
structure kg (w:World) (pa ga:Nat) (v:Value) (R:AR):Prop where
 head:ak w pa 120 5 (GR ga v R)
 row:ak w ga 152 (R.sl.length*2) (BH R)
 wait:w.ownsRow 0 3 1 v R.wait.length (bD (aU R.wait))
 ne:pa≠ga
 nw:∀k,v.ownBlock=some k->k≠pa/\k≠ga
 ok:R.Ok
def iN (w:World) (pa:Nat) (F:List Nat) (R:AR):Prop:=∃ga v,F=pa::ga::v.ownBlock.toList/\kg w pa ga v R
section
variable {w:World} {pa ga:Nat} {v:Value} {R:AR} {F:List Nat}
theorem kg.c0 (h:kg w pa ga v R):w.cell? ⟨pa,0,none⟩=some (.slice (some ⟨ga,0,none⟩) R.sl.length R.sl.length):=h.head.cellAt 0 ω rfl
theorem kg.c1 (h:kg w pa ga v R):w.cell? ⟨pa,1,none⟩=some v:=h.head.cellAt 1 ω rfl
theorem kg.c2 (h:kg w pa ga v R):w.cell? ⟨pa,2,none⟩=some (.int .i64 (R.next:Int)):=h.head.cellAt 2 ω rfl
theorem kg.c3 (h:kg w pa ga v R):w.cell? ⟨pa,3,none⟩=some (.int .i64 (R.cnt:Int)):=h.head.cellAt 3 ω rfl
theorem kg.s0 (h:kg w pa ga v R) {x:Nat} (hx:x<R.sl.length):w.cell? ⟨ga,x*2,none⟩=some (.int .u32 (R.g x:Int)):=h.row.cellAt (x*2) ω (by unfold BH;rw [Δ ω,show x*2 / 2=x by omega])
theorem kg.s1 (h:kg w pa ga v R) {x:Nat} (hx:x<R.sl.length):w.cell? ⟨ga,x*2+1,none⟩=some (.bool (R.v x)):=h.row.cellAt (x*2+1) ω (by unfold BH;rw [Γ ω,show (x*2+1) / 2=x by omega])
theorem x8 (l:List Nat):(aU l).length=l.length:=by unfold aU;simp
theorem kg.upd {w':World} {S:List Nat} (h:kg w pa ga v R) (hu:aa S w w') (hS:∀x,x∈S->x∉pa::ga::v.ownBlock.toList):kg w' pa ga v R:=
 ⟨h.head.upd hu (λe=>hS _ e σ),h.row.upd hu (λe=>hS _ e σ),ay h.wait hu (λk hk e=>hS _ e (by simp [hk])),h.ne,h.nw,h.ok⟩
theorem iN.upd {w':World} {S:List Nat} (h:iN w pa F R) (hu:aa S w w') (hS:∀x,x∈S->x∉F):iN w' pa F R:=by
 obtain ⟨ga,v,rfl,h⟩:=h;exact ⟨ga,v,rfl,h.upd hu hS⟩
theorem iN.lt (h:iN w pa F R):∀x,x∈F->x<w.heap.size:=by
 obtain ⟨ga,v,rfl,h⟩:=h;intro x hx;simp at hx;rcases hx with rfl|rfl|hx
 ·exact h.head.lt
 ·exact h.row.lt
 ·exact (h.wait.lt x hx).2
theorem iN.ok (h:iN w pa F R):R.Ok:=by obtain ⟨ga,v,rfl,h⟩:=h;exact h.ok
theorem zQ (n m:Int) (w:World) (h:n<0\/65536<n\/m=0) (hm:0<=m/\m<=4294967295) :
  Calls Tryz.prog 34 #[.int .i64 n,.int .u32 m] w λe w'=>e=.returned (.tuple #[.pointer none,.int .i64 31])/\w'=w:=by
 by_cases h1:n<0
 ·go_enter Tryz.func34,Tryz.ntmps34
  go_wp2;go_ret2;exact ⟨rfl,rfl⟩
 ·by_cases h2:65536<n
  ·go_enter Tryz.func34,Tryz.ntmps34
   go_wp2;go_ret2;exact ⟨rfl,rfl⟩
  ·obtain rfl:m=0:=ω
   go_enter Tryz.func34,Tryz.ntmps34
   go_wp2;go_ret2;exact ⟨rfl,rfl⟩
theorem Bq:(Tryz.prog.info? 152).map (λi=>(i.zero,i.size,i.bytes))=some (some (.agg #[.int .u32 0,.bool false]),2,8):=by kernel_rfl
theorem oP (n m:Nat) (w:World) (h:n<=65536) (hm:1<=m/\m<=4294967295) :
  Calls Tryz.prog 34 #[.int .i64 (n:Int),.int .u32 (m:Int)] w λe w'=>∃pa F,e=.returned (.tuple #[.pointer (some ⟨pa,0,none⟩),.int .i64 0])/\iN w' pa F (AR.new n m)/\aa [] w w'/\∀x,x∈F->w.heap.size<=x:=by
 have hm0:((m:Int) == 0)=false:=ζ
 go_enter Tryz.func34,Tryz.ntmps34
 go_wp2_with (first
  | (at_make;refine wpList_make_row rfl _ 118 rfl 152 (.agg #[.int .u32 0,.bool false]) 2 8 Tryz.underlying118 Bq n rfl ω μ ?_;intro w2 hr2 hu2))
 go_ret2;have hh:=aY w2 [.slice (some ⟨w.heap.size,0,none⟩) n n,.slice none 0 0,.int .i64 0,.int .i64 0,.int .u32 (m:Int)] 120;have l1:=hr2.lt;have e:∀x,(AR.new n m).g x=0/\(AR.new n m).v x=false:=λx=>by
  unfold AR.new AR.g AR.v;simp only [φ,List.getElem?_replicate]
  split<;>exact ⟨rfl,rfl⟩
 refine ⟨w2.heap.size,w2.heap.size::w.heap.size::[],rfl,⟨w.heap.size,.slice none 0 0,rfl,⟨?_,?_,⟨by simp [AR.new,aU,bD],Α ⟨rfl,by simp [AR.new]⟩⟩,ω,λk hk=>(by cases hk),AR.uj h hm⟩⟩,hu2.trans ((aa.refl _ _).alloc _),λx hx=>by simp at hx;omega⟩
 ·refine hh.ext (λj hj=>?_);unfold GR;rw [AR.wm];simp [AR.new]
 ·have hl:(AR.new n m).sl.length=n:=by simp [AR.new]
  rw [hl];refine (hr2.alloc _).ext (λj hj=>?_);unfold BH;rw [(e _).1,(e _).2]
  show (madeCells #[Value.int .u32 0,.bool false] (n*2)).toList.getD j undef=_
  rw [φ,ε (by simp [size_madeCells];omega)];simp only [Option.getD_some,madeCells,Array.getElem_toList,Array.getElem_map,Array.getElem_range];rcases (ω:j % 2=0\/j % 2=1) with e|e<;>simp [e]
theorem vV (h:iN w pa F R) (x g:Int) (hg:0<=g/\g<=4294967295) :
  Calls Tryz.prog 73 #[.pointer (some ⟨pa,0,none⟩),.agg #[.int .i64 x,.int .u32 g]] w λe w'=>e=.returned (.bool (wB R x g))/\aa [] w w':=by
 obtain ⟨ga,v,rfl,h⟩:=h;have c0':=h.c0;have hl:=h.ok.n;have H:=χ h;unfold wB
 by_cases b1:x≥0
 ·by_cases b2:x<(R.sl.length:Int)
  ·have d0':=h.s0 (x:=x.toNat) ω;have d1':=h.s1 (x:=x.toNat) ω;rw [show ((x.toNat * 2:Nat))=x.toNat * 2 from rfl] at d0';rw [Ν (show 0<=x from b1),Ν b2];generalize R.g x.toNat=gi at *;generalize R.v x.toNat=vi at *;generalize R.sl.length=n at *;clear h
   go_enter Tryz.func73,Tryz.ntmps73
   (go_upto_region 1 with (fail);refine dW (λW=>W.cell? ⟨w.heap.size,0,none⟩=some (.int .i64 x)/\W.cell? ⟨w.heap.size,1,none⟩=some (.int .u32 g)/\aa [] w W) ⟨σ,σ,β⟩ ?_;rintro W ⟨q0,q1,hu⟩)
   have c0:=hu.was c0';have d0:=hu.was d0';have d1:=hu.was d1';have HU:=χ hu;clear hu c0' d0' d1'
   by_cases e:(gi:Int)=g
   ·subst e;cases vi
    all_goals
     go_quiet (fail)
     go_wp2;go_ret;exact ⟨aP σ,by have:=HU.out;exact β⟩
   ·cases vi
    all_goals
     go_quiet (fail)
     go_wp2;go_ret;exact ⟨aP (by simp [e]),by have:=HU.out;exact β⟩
  ·have b2b:decide (x<(R.sl.length:Int))=false:=by simpa using b2
   rw [b2b];generalize R.sl.length=n at *;clear h
   go_enter Tryz.func73,Tryz.ntmps73
   (go_upto_region 1 with (fail);refine dW (λW=>W.cell? ⟨w.heap.size,0,none⟩=some (.int .i64 x)/\W.cell? ⟨w.heap.size,1,none⟩=some (.int .u32 g)/\aa [] w W) ⟨σ,σ,β⟩ ?_;rintro W ⟨q0,q1,hu⟩)
   have c0:=hu.was c0';have HU:=χ hu;clear hu c0'
   go_quiet (fail)
   go_wp2;go_ret;exact ⟨aP σ,by have:=HU.out;exact β⟩
 ·have b1b:decide (x≥0)=false:=by simpa using b1
  rw [Ξ (show ¬0<=x from b1)];clear h
  go_enter Tryz.func73,Tryz.ntmps73
  (go_upto_region 1 with (fail);refine dW (λW=>W.cell? ⟨w.heap.size,0,none⟩=some (.int .i64 x)/\W.cell? ⟨w.heap.size,1,none⟩=some (.int .u32 g)/\aa [] w W) ⟨σ,σ,β⟩ ?_;rintro W ⟨q0,q1,hu⟩)
  have HU:=χ hu;clear hu
  go_quiet (fail)
  go_wp2;go_ret;exact ⟨aP σ,by have:=HU.out;exact β⟩
end
theorem Bh {w:World} {base g n cap k:Nat} {e:TypeId} {xs:List Value} (h:w.ownsRow base e 1 (.slice (some ⟨g,0,none⟩) n cap) n xs) (hk:k<=n):w.ownsRow base e 1 (.slice (some ⟨g,0,none⟩) k cap) k (xs.take k):=by
 rcases h.2 with ⟨h1,_⟩|⟨g',cap',cur,h1,hb,hg,hn,hc,hs,ht⟩
 ·cases h1
 ·cases h1;have h0:=h.1;exact ⟨by rw [List.length_take];omega,Β ⟨g,cap,cur,rfl,hb,hg,ω,hc,hs,by rw [←ht,List.take_take];congr 1;omega⟩⟩
theorem Dh {R R':AR} {x:Nat} (h:R.Ok) (hp:iL R=some (x,R')):R'.Ok:=by
 obtain ⟨h1,h2,h3,h4,h5,h6,h7,h8,h9,h10⟩:=lI h hp;have eg:∀z,R'.g z=R.g z:=λz=>by unfold AR.g;rw [h4]
 have ev:∀z,R'.v z=R.v z:=λz=>by unfold AR.v;rw [h4]
 refine ⟨by rw [h4];exact h.n,by rw [h4];exact h6,by rw [h5];exact h.G8,λz hz=>?_,h10,λz hz=>?_,λz hz=>by rw [ev] at hz;rw [eg];exact h.lv z hz,λz=>by rw [eg,h5];exact h.gm z⟩
 ·obtain ⟨a1,_⟩:=h9 z hz;obtain ⟨b1,b2,b3⟩:=h.wt z a1;rw [ev,eg,h5];exact ⟨ω,b2,b3⟩
 ·rw [ev,eg];exact h.fresh z ω
section
variable {w:World} {pa ga:Nat} {v:Value} {R:AR} {F:List Nat}
theorem AB (h:iN w pa F R) (x:Nat) (hx:R.v x=true) :
  Calls Tryz.prog 72 #[.pointer (some ⟨pa,0,none⟩),.int .i64 (x:Int)] w λe w'=>e=.returned (.tuple #[.agg #[.int .i64 (x:Int),.int .u32 (R.g x:Int)],.bool true])/\aa [] w w':=by
 obtain ⟨ga,v,rfl,h⟩:=h;have hl:=AR.Ho hx;have hn:=h.ok.n;have c0:=h.c0;have d0:=h.s0 hl;have d1:=h.s1 hl;rw [hx] at d1;have Jn:(x:Int)<(R.sl.length:Int):=ω;have hx2:¬R.sl.length<=x:=ω;generalize R.g x=gx at *;generalize R.sl.length=n at *;have l1:=Ε w _ c0;have l2:=Ε w _ d0;clear h hx
 go_enter Tryz.func72,Tryz.ntmps72
 go_wp2;exact bodyPost_ret (v:=.tuple #[.agg #[.int .i64 (x:Int),.int .u32 (gx:Int)],.bool true]) (by simp [results,Tryz.results72,go_sem]) rfl ⟨rfl,β⟩
theorem tQ (h:kg w pa ga v R) (hp:iL R=none) :
  Calls Tryz.prog 71 #[.pointer (some ⟨pa,0,none⟩)] w λe w'=>e=.returned (.tuple #[.int .i64 0,.bool false])/\aa [] w w':=by
 have hw:R.wait=[]/\R.next=R.sl.length:=by
  unfold iL at hp;cases hl:R.wait.getLast? with
  | some y=>rw [hl] at hp;cases hp
  | none=>
   rw [hl] at hp;dsimp only at hp
   split at hp
   ·rename_i e;exact ⟨List.getLast?_eq_none_iff.1 hl,e⟩
   ·cases hp
 have c0:=h.c0;have c1:=h.c1;have c2:=h.c2;have hv:=h.wait;rw [hw.1] at hv;obtain ⟨a,c,rfl,hc⟩:=bM hv;rw [hw.2] at c2;have hnn:((R.sl.length:Int) == (R.sl.length:Int))=true:=σ;generalize R.sl.length=n at *;simp only [List.length_nil] at c1;clear h hv hw hp
 go_enter Tryz.func71,Tryz.ntmps71
 go_wp2
 go_quiet (fail)
 go_wp2;go_ret2;exact ⟨rfl,β⟩
theorem x9 {l:List Nat} {j x:Nat} (h:l[j]?=some x):(aU l).getD j 0=(x:Int):=by unfold aU;simp [φ,h]
theorem uO (l:List Int) (k:Nat):(bD l).take k=bD (l.take k):=by unfold bD;rw [List.map_take]
theorem vS (l:List Nat) (k:Nat):(aU l).take k=aU (l.take k):=by unfold aU;rw [List.map_take]
theorem kg.J7 (h:kg w pa ga v R) {R':AR} {v':Value} (ok:R'.Ok) (e1:R'.sl=R.sl) (e2:R'.next=R.next) (e3:R'.most=R.most) (hw:w.ownsRow 0 3 1 v' R'.wait.length (bD (aU R'.wait))) (hb:∀k,v'.ownBlock=some k->k≠pa/\k≠ga) :
  kg (w.setCell ⟨pa,1,none⟩ v') pa ga v' R':=by
 have hu:aa [pa] w (w.setCell ⟨pa,1,none⟩ v'):=(aa.refl _ _).setCell (Α σ) _;refine ⟨(h.head.set 1 v').ext (λj hj=>?_),?_,ay hw hu (λk hk e=>(hb k hk).1 (by simpa using e)),h.ne,hb,ok⟩
 ·rcases (ω:j=0\/j=1\/j=2\/j=3\/j=4) with rfl|rfl|rfl|rfl|rfl<;>simp [GR,AR.cnt,e1,e2,e3]
 ·rw [e1];exact (h.row.upd hu (by simp;exact λe=>h.ne e.symm)).ext (λj hj=>by unfold BH AR.g AR.v;rw [e1])
theorem kg.JA (h:kg w pa ga v R) {R':AR} (ok:R'.Ok) (e1:R'.sl=R.sl) (e2:R'.wait=R.wait) (e3:R'.most=R.most):kg (w.setCell ⟨pa,2,none⟩ (.int .i64 (R'.next:Int))) pa ga v R':=by
 have hu:aa [pa] w (w.setCell ⟨pa,2,none⟩ (.int .i64 (R'.next:Int))):=(aa.refl _ _).setCell (Α σ) _;refine ⟨(h.head.set 2 _).ext (λj hj=>?_),?_,by rw [e2];exact ay h.wait hu (λk hk e=>(h.nw k hk).1 (by simpa using e)),h.ne,h.nw,ok⟩
 ·rcases (ω:j=0\/j=1\/j=2\/j=3\/j=4) with rfl|rfl|rfl|rfl|rfl<;>simp [GR,AR.cnt,e1,e3]
 ·rw [e1];exact (h.row.upd hu (by simp;exact λe=>h.ne e.symm)).ext (λj hj=>by unfold BH AR.g AR.v;rw [e1])
theorem sD (h:kg w pa ga v R) {x:Nat} {R':AR} (hp:iL R=some (x,R')) :
  Calls Tryz.prog 71 #[.pointer (some ⟨pa,0,none⟩)] w λe w'=>e=.returned (.tuple #[.int .i64 (x:Int),.bool true])/\∃v',v'.ownBlock=v.ownBlock/\kg w' pa ga v' R'/\aa [pa] w w':=by
 have ok':=Dh h.ok hp;have hwl:=AR.Dp h.ok;have hn:=h.ok.n;have hnx:=h.ok.nx;unfold iL at hp;cases hl:R.wait.getLast? with
 | some y=>
  rw [hl] at hp;simp only [ϒ,Prod.mk.injEq] at hp;obtain ⟨rfl,rfl⟩:=hp;have hne:R.wait≠[]:=λe=>by rw [e] at hl;cases hl
  have hpos:0<R.wait.length:=List.length_pos_iff.2 hne;have c1:=h.c1;have f1:=h.head.free 1;obtain ⟨gw,cap,rfl,_,hgl,hnc,hcm,hcell,_⟩:=dI h.wait hpos;have hat:R.wait[R.wait.length-1]?=some y:=by rw [←List.getLast?_eq_getElem?];exact hl
  have d0:=hcell (R.wait.length-1) (.int .i64 (y:Int)) (by rw [pg (by rw [x8];omega),x9 hat]);have hdl:R.wait.dropLast=R.wait.take (R.wait.length-1):=List.dropLast_eq_take;have hw2:=Bh h.wait (k:=R.wait.length-1) ω;rw [uO,vS,←hdl] at hw2;have hll:R.wait.dropLast.length=R.wait.length-1:=σ;have HF:=χ (show kg (w.setCell ⟨pa,1,none⟩ (.slice (some ⟨gw,0,none⟩) (R.wait.length-1) cap)) pa ga (.slice (some ⟨gw,0,none⟩) (R.wait.length-1) cap) { R with wait:=R.wait.dropLast } from h.J7 ok' rfl rfl rfl (by show w.ownsRow 0 _ 1 _ R.wait.dropLast.length _;rw [hll];exact hw2) h.nw);have hgp:=Ε w _ c1
  clear h ok' hcell hat hdl hw2 hll hl hne;generalize hwn:R.wait.length=wn at *;obtain ⟨m,rfl⟩:∃m,wn=m+1:=⟨wn-1,ω⟩;simp only [Nat.add_sub_cancel] at d0 HF;clear hwn;have hmi:((m+1:Nat):Int)-1=(m:Int):=ω;have hwr:IntKind.i64.wrap (((m+1:Nat):Int)-1)=(m:Int):=by rw [hmi];exact Μ _ ω
  have hgt:((m+1:Nat):Int) > 0:=ω;have hlt:(m:Int)<((m+1:Nat):Int):=ω;have hcapI:(m:Int)<=(cap:Int):=ω
  go_enter Tryz.func71,Tryz.ntmps71
  go_wp2;go_ret2;exact ⟨rfl,.slice (some ⟨gw,0,none⟩) m cap,rfl,HF.out,β⟩
 | none=>
  rw [hl] at hp;have hw:R.wait=[]:=List.getLast?_eq_none_iff.1 hl;dsimp only at hp
  split at hp
  ·cases hp
  ·rename_i hne
   simp only [ϒ,Prod.mk.injEq] at hp;obtain ⟨rfl,rfl⟩:=hp;have c0:=h.c0;have c1:=h.c1;have c2:=h.c2;have f2:=h.head.free 2;have hv:=h.wait;rw [hw] at hv;obtain ⟨a,c,rfl,hc⟩:=bM hv;simp only [List.length_nil] at c1;have hnn:((R.next:Int) == (R.sl.length:Int))=false:=ζ;have hwr:IntKind.i64.wrap ((R.next:Int)+1)=(R.next:Int)+1:=Μ _ ω;have hwr2:IntKind.i64.wrap ((R.next:Int)+1-1)=(R.next:Int):=by rw [show (R.next:Int)+1-1=(R.next:Int) by omega];exact Μ _ ω
   have hgp:=Ε w _ c0;have HF:=χ (λW (hW:aa [] w W)=>(h.upd hW σ).JA (R':={ R with next:=R.next+1 }) ok' rfl rfl rfl);have HC:=χ (show ((({ R with next:=R.next+1 }:AR).next:Nat):Int)=(R.next:Int)+1 from by show ((R.next+1:Nat):Int)=_;omega);clear h ok' hv hw hl;generalize hq:({ R with next:=R.next+1 }:AR)=R2 at *;clear hq;generalize R.next=nx at *;generalize R.sl.length=n at *
   go_enter Tryz.func71,Tryz.ntmps71
   go_wp2
   go_quiet (fail)
   go_wp2;go_ret2;refine ⟨rfl,_,rfl,?_,β⟩;have:=HF.out _ (((aa.refl [] w).drewN nq));rw [HC.out] at this;exact this
theorem si (h:iN w pa F R) (hp:iH R=none) :
  Calls Tryz.prog 40 #[.pointer (some ⟨pa,0,none⟩)] w λe w'=>e=.returned (.tuple #[.agg #[.int .i64 0,.int .u32 0],.int .i64 32])/\aa [] w w':=by
 obtain ⟨ga,v,rfl,h⟩:=h;have hp':iL R=none:=by unfold iH at hp;cases hq:iL R with|none=>rfl|some q=>rw [hq] at hp;cases hp
 have k:=λW (hW:aa [] w W)=>tQ (h.upd hW σ) hp';clear h
 go_enter Tryz.func40,Tryz.ntmps40
 go_wp2_with (first
  | ((go_at_call 71;(with_reducible refine (k _ β).mono ?_));rintro e w1 ⟨rfl,hu1⟩;(have q0:w1.cell? ⟨w.heap.size,0,none⟩=some (.int .i64 0):=hu1.was γ);(have q1:w1.cell? ⟨w.heap.size,1,none⟩=some (.int .u32 0):=hu1.was γ);(have f0:w1.frozen? ⟨w.heap.size,0,none⟩=false:=hu1.aF (v:=.int .i64 0) γ σ γ);(have f1:w1.frozen? ⟨w.heap.size,1,none⟩=false:=hu1.aF (v:=.int .u32 0) γ σ γ);(have hu1':aa [] w w1:=aa.trans β hu1))
  | fail)
 exact bodyPost_ret (v:=.tuple #[.agg #[.int .i64 0,.int .u32 0],.int .i64 32]) (by simp [results,Tryz.results40,go_sem,q0,q1]) rfl ⟨rfl,β⟩
theorem CO {R:AR} {x:Nat} (hx:x<R.sl.length) (p:Nat×Bool) (j:Nat):BH (R.put x p) j=if j=x*2+1 then .bool p.2 else if j=x*2 then .int .u32 (p.1:Int) else BH R j:=by
 unfold BH;rw [AR.rD,AR.r9]
 by_cases e3:j % 2=0
 ·rw [Γ (show ¬j=x*2+1 by omega)];simp only [Δ e3]
  by_cases e2:j=x*2
  ·rw [Δ e2,Δ ⟨ω,hx⟩]
  ·rw [Γ e2,Γ ω]
 ·simp only [Γ e3];rw [Γ (show ¬j=x*2 by omega)]
  by_cases e2:j=x*2+1
  ·rw [Δ e2,Δ ⟨ω,hx⟩]
  ·rw [Γ e2,Γ ω]
theorem kg.put (h:kg w pa ga v R) {x:Nat} (hx:x<R.sl.length) (p:Nat×Bool) (ok:(R.put x p).Ok) {w':World} (hrow:ak w' ga 152 (R.sl.length*2) (λi=>if i=x*2+1 then .bool p.2 else if i=x*2 then .int .u32 (p.1:Int) else BH R i)) (hu:aa [ga] w w') :
  kg (w'.setCell ⟨pa,3,none⟩ (.int .i64 ((R.put x p).cnt:Int))) pa ga v (R.put x p):=by
 have hu2:aa [pa,ga] w (w'.setCell ⟨pa,3,none⟩ (.int .i64 ((R.put x p).cnt:Int))):=(hu.mono σ).setCell (Α σ) _;refine ⟨((h.head.upd hu (by simpa using h.ne)).set 3 _).ext (λj hj=>?_),?_,ay h.wait hu2 (λk hk e=>?_),h.ne,h.nw,ok⟩
 ·rcases (ω:j=0\/j=1\/j=2\/j=3\/j=4) with rfl|rfl|rfl|rfl|rfl<;>simp [GR,AR.kW]
  all_goals rfl
 ·rw [AR.kW];exact (hrow.far _ _ (by simpa using h.ne.symm)).ext (λj hj=>(CO hx p j).symm)
 ·have:=h.nw k hk;simp at e;omega
theorem rV (h:iN w pa F R) {x:Nat} {R':AR} (hp:iH R=some (x,R')) :
  Calls Tryz.prog 40 #[.pointer (some ⟨pa,0,none⟩)] w λe w'=>e=.returned (.tuple #[.agg #[.int .i64 (x:Int),.int .u32 ((R.g x:Int)+1)],.int .i64 0])/\Goes F w w' (λF'=>iN w' pa F' R'):=by
 have Cm:=qw h.ok hp;obtain ⟨ga,v,rfl,h⟩:=h;unfold iH at hp;cases hq:iL R with
 | none=>rw [hq] at hp;cases hp
 | some q=>
  obtain ⟨y,R1⟩:=q;rw [hq] at hp;simp only [Option.map_some,ϒ,Prod.mk.injEq] at hp;obtain ⟨rfl,rfl⟩:=hp;obtain ⟨GM,hx,hv0,hgm,hsl,Je,hcnt⟩:=Cm;obtain ⟨_,_,_,h4,_⟩:=lI h.ok hq;have hmo:=h.ok.G8;have hlp:=h.head.lt;have hlg:=h.row.lt;have hvl:=λk hk=>(h.wait.lt k hk).2;have k:=λW (hW:aa [] w W)=>sD (h.upd hW σ) hq;have hx1:y<R1.sl.length:=by rw [h4];exact hx
  have hg1:R1.g y=R.g y:=by unfold AR.g;rw [h4]
  have hcn:R1.cnt<=65536:=by
   have h1:=Dw R1.sl;have h2:=h.ok.n;unfold AR.cnt;rw [h4] at h1 ⊢;omega
  have hv1:R1.v y=false:=by unfold AR.v at hv0 ⊢;rw [h4];exact hv0
  have hc2:(R1.put y (R.g y+1,true)).cnt=R1.cnt+1:=by
   have:=AR.wN (R:=R1) y (R.g y+1,true) hx1;rw [hv1] at this;simpa using this
  have hn1:R1.sl.length<=65536:=by rw [h4];exact h.ok.n
  have hwg:IntKind.u32.wrap ((R.g y:Int)+1)=(R.g y:Int)+1:=IntWalk.u32_in _ ω;have hwc:IntKind.i64.wrap ((R1.cnt:Int)+1)=(R1.cnt:Int)+1:=Μ _ ω;have hne:=h.ne;have hnw:=h.nw;have HT:=χ (ψ GM hc2);clear h hq GM hc2 hcnt hsl Je hv0 h4
  go_enter Tryz.func40,Tryz.ntmps40
  go_upto_region 4 with (first
   | ((go_at_call 71;(with_reducible refine (k _ β).mono ?_));rintro e w1 ⟨rfl,v1,yK,hM,hu1⟩;(have q0:w1.cell? ⟨w.heap.size,0,none⟩=some (.int .i64 0):=hu1.kept γ ζ);(have q1:w1.cell? ⟨w.heap.size,1,none⟩=some (.int .u32 0):=hu1.kept γ ζ);(have f0:w1.frozen? ⟨w.heap.size,0,none⟩=false:=hu1.aF (v:=.int .i64 0) γ ζ γ);(have f1:w1.frozen? ⟨w.heap.size,1,none⟩=false:=hu1.aF (v:=.int .u32 0) γ ζ γ))
   | fail)
  have b0:=hM.c0;have b1:=hM.s0 hx1;have b2:=hM.s1 hx1;have b3:=hM.c3;have g1:=hM.row.free (y*2);have g2:=hM.row.free (y*2+1);have g3:=hM.head.free 3;have hyI:(y:Int)<(R1.sl.length:Int):=ω;rw [hg1] at b1;have hsz1:=hu1.size;have hgl:=hM.row.lt;have KR:¬ga=w.heap.size:=ω;have KT:¬pa=w.heap.size:=ω;have Gs:¬w.heap.size=ga:=ω;have H8:¬w.heap.size=pa:=ω;have hnp:¬ga=pa:=λe=>hne e.symm;have hrow:=(hM.row.set (y*2) (.int .u32 ((R.g y:Int)+1))).set (y*2+1) (.bool true);have HM:=χ (ψ hM (ψ hrow (ψ hu1 (ψ yK (ψ hnw hvl)))));clear hM hrow hu1 k yK hnw hvl;generalize hgy:R.g y=gy at *
  generalize R1.cnt=cn at *;generalize hnn:R1.sl.length=n at *;have HG:=χ (ψ hgy hnn);clear hgy hnn;go_wp2;obtain ⟨hM,hrow,hu1,yK,hnw,hvl⟩:=HM.out;have e1:(((gy+1:Nat)):Int)=(gy:Int)+1:=ω;have hU:aa [ga] w1 ((w1.setCell ⟨ga,y*2,none⟩ (.int .u32 ((gy:Int)+1))).setCell ⟨ga,y*2+1,none⟩ (.bool true)):=((aa.refl _ _).setCell (Α σ) _).setCell (Α σ) _;have hok:=HT.out.1;have hct:=HT.out.2
  have hP:=hM.put (by rw [HG.out.2];exact hx1) (gy+1,true) hok (w':=(w1.setCell ⟨ga,y*2,none⟩ (.int .u32 ((gy:Int)+1))).setCell ⟨ga,y*2+1,none⟩ (.bool true)) (by
   rw [HG.out.2]
   exact hrow.ext (λj hj=>by dsimp only;rw [e1])) hU
  rw [hct,show ((cn+1:Nat):Int)=(cn:Int)+1 by omega] at hP;have hF:∀x,x∈pa::ga::v1.ownBlock.toList->x∈pa::ga::v.ownBlock.toList:=λx hx=>by rw [yK] at hx;exact hx
  have hU1:aa (pa::ga::v.ownBlock.toList) w w1:=aa.trans ((aa.refl _ _).alloc _) (hu1.mono σ);refine bodyPost_ret (v:=.tuple #[.agg #[.int .i64 (y:Int),.int .u32 ((gy:Int)+1)],.int .i64 0]) (by simp [results,Tryz.results40,go_sem,q0,q1,KR,KT,Gs,H8]) rfl ⟨by rw [HG.out.1],pa::ga::v1.ownBlock.toList,⟨ga,v1,rfl,?_⟩,?_,λx hx=>Α (hF x hx)⟩
  ·rw [HG.out.1];refine hP.upd (S:=[w.heap.size]) (((aa.refl _ _).setCell (Α σ) _).setCell (Α σ) _) (λx hx hm=>?_);simp at hx;subst hx;have hm2:=hF _ hm;simp at hm2;rcases hm2 with e|e|e
   ·exact H8 e
   ·exact Gs e
   ·have:=hvl _ e;omega
  ·exact ((((hU1.setCell (Α σ) _).setCell (Α σ) _).setCell (Α σ) _).setCell (Β (Θ _)) _).setCell (Β (Θ _)) _
end
def FE (K:bV) (pa pn:Nat) (kd d:Int) (q:Nat) (j:Nat):Value:=[Value.int .i64 kd,.int .i64 d,.pointer (some ⟨pa,0,none⟩),.iface K.ty (.pointer (some ⟨pn,0,none⟩)),.int .u64 (q:Int)].getD j undef
structure nR (K:bV) (w:World) (p pa pn:Nat) (Fa Fn:List Nat) (kd d:Int) (R:AR) (A:NS) (q:Nat):Prop where
 head:ak w p 89 5 (FE K pa pn kd d q)
 ar:iN w pa Fa R
 nest:K.at_ w pn Fn A
 s1:p∉Fa
 s2:p∉Fn
 s3:∀x,x∈Fa->x∉Fn
 len:R.sl.length=A.cs.length
 link:∀x:Nat,R.v x=dh A (x:Int)
def bA (K:bV) (w:World) (p:Nat) (F:List Nat) (kd d:Int) (R:AR) (A:NS) (q:Nat):Prop:=∃pa pn Fa Fn,F=p::(Fa++Fn)/\nR K w p pa pn Fa Fn kd d R A q
section
variable {K:bV} {w:World} {p pa pn:Nat} {Fa Fn F:List Nat} {kd d:Int} {R:AR} {A:NS} {q:Nat}
theorem nR.c2 (h:nR K w p pa pn Fa Fn kd d R A q):w.cell? ⟨p,2,none⟩=some (.pointer (some ⟨pa,0,none⟩)):=h.head.cellAt 2 ω rfl
theorem nR.c3 (h:nR K w p pa pn Fa Fn kd d R A q):w.cell? ⟨p,3,none⟩=some (.iface K.ty (.pointer (some ⟨pn,0,none⟩))):=h.head.cellAt 3 ω rfl
theorem nR.c4 (h:nR K w p pa pn Fa Fn kd d R A q):w.cell? ⟨p,4,none⟩=some (.int .u64 (q:Int)):=h.head.cellAt 4 ω rfl
theorem nR.upd {w':World} {S:List Nat} (h:nR K w p pa pn Fa Fn kd d R A q) (hu:aa S w w') (hS:∀x,x∈S->x∉p::(Fa++Fn)):nR K w' p pa pn Fa Fn kd d R A q:=
 ⟨h.head.upd hu (λe=>hS _ e σ),h.ar.upd hu (λx hx hm=>hS x hx (by simp [hm])),K.upd h.nest hu (λx hx hm=>hS x hx (by simp [hm])),h.s1,h.s2,h.s3,h.len,h.link⟩
theorem bA.upd {w':World} {S:List Nat} (h:bA K w p F kd d R A q) (hu:aa S w w') (hS:∀x,x∈S->x∉F):bA K w' p F kd d R A q:=by
 obtain ⟨pa,pn,Fa,Fn,rfl,h⟩:=h;exact ⟨pa,pn,Fa,Fn,rfl,h.upd hu hS⟩
theorem bA.ah {w':World} (h:bA K w p F kd d R A q) (hu:aa [] w w'):bA K w' p F kd d R A q:=h.upd hu σ
theorem nR.lt (h:nR K w p pa pn Fa Fn kd d R A q):∀x,x∈p::(Fa++Fn)->x<w.heap.size:=λx hx=>by
 simp only [ρ,τ] at hx;rcases hx with rfl|hx|hx
 ·exact h.head.lt
 ·exact h.ar.lt x hx
 ·exact K.lt h.nest x hx
theorem bA.lt (h:bA K w p F kd d R A q):∀x,x∈F->x<w.heap.size:=by
 obtain ⟨pa,pn,Fa,Fn,rfl,h⟩:=h;exact h.lt
theorem bA.ok (h:bA K w p F kd d R A q):A.Ok/\R.Ok/\R.sl.length=A.cs.length/\∀x:Nat,R.v x=dh A (x:Int):=by
 obtain ⟨pa,pn,Fa,Fn,rfl,h⟩:=h;exact ⟨K.ok h.nest,h.ar.ok,h.len,h.link⟩
theorem nR.Ef (h:nR K w p pa pn Fa Fn kd d R A q) {w':World} {nS:List Nat} {A':NS} (hn:K.at_ w' pn nS A') (hu:aa Fn w w') (hf:∀x,x∈nS->x∈Fn\/w.heap.size<=x) (hl:A'.cs.length=A.cs.length) {R':AR} (ha:iN w' pa Fa R') (hl2:R'.sl.length=R.sl.length)
  (hk:∀x:Nat,R'.v x=dh A' (x:Int)):nR K w' p pa pn Fa nS kd d R' A' q:=
 ⟨h.head.upd hu h.s2,ha,hn,h.s1,λe=>by rcases hf _ e with e|e;exact h.s2 e;have:=h.head.lt;omega,λx hx e=>by rcases hf _ e with e|e;exact h.s3 x hx e;have:=h.ar.lt x hx;omega,by rw [hl2,hl];exact h.len,hk⟩
theorem Ab (A:NS) (x:Int):dh (ag A) x=dh A x:=by unfold ag;split<;>rfl
theorem xC (A:NS):(ag A).cs.length=A.cs.length:=by unfold ag;split<;>rfl
theorem jR (h:bA K w p F kd d R A q) :
  Calls Tryz.prog 18 #[.pointer (some ⟨p,0,none⟩)] w λe w'=>e=.returned (.tuple #[.int .i64 (aT A),.int .i64 (if aT A=0 then 32 else 0)])/\Goes F w w' (λF'=>bA K w' p F' kd d R (ag A) q):=by
 obtain ⟨pa,pn,Fa,Fn,rfl,h⟩:=h;have c3:=h.c3;obtain ⟨f,fv,hen,iP⟩:=K.make h.nest;unfold Enters at hen;have hm:=(iP w (aa.refl _ _)).1;have hc:=(iP w (aa.refl _ _)).2
 have HK:=χ (show ∀w' nS,K.at_ w' pn nS (ag A)->aa Fn w w'->(∀x,x∈nS->x∈Fn\/w.heap.size<=x)->Goes (p::(Fa++Fn)) w w' (λF'=>bA K w' p F' kd d R (ag A) q) from λw' nS hn hu hf=>by
  refine ⟨p::(Fa++nS),⟨pa,pn,Fa,nS,rfl,h.Ef hn hu hf (xC A) (h.ar.upd hu (λx hx hm=>h.s3 x hm hx)) rfl (λx=>by rw [Ab];exact h.link x)⟩,hu.mono (λx hx=>by simp [hx]),λx hx=>?_⟩;simp only [ρ,τ] at hx ⊢;rcases hx with hx|hx|hx
  ·exact Α (Α hx)
  ·exact Α (Β (Α hx))
  ·rcases hf x hx with hx|hx
   ·exact Α (Β (Β hx))
   ·exact Β hx)
 clear h iP;generalize aT A=mv at *
 by_cases hz:mv=0
 ·subst hz
  go_enter Tryz.func18,Tryz.ntmps18
  go_wp2_with (first
   | ((with_reducible refine (hc).mono ?_);rintro e w1 ⟨rfl,nS,hn,hu,hf⟩)
   | fail)
  go_ret2;exact ⟨rfl,HK.out _ _ hn hu hf⟩
 ·have hzb:(mv == 0)=false:=by simpa using hz
  rw [Γ hz];clear hz
  go_enter Tryz.func18,Tryz.ntmps18
  go_wp2_with (first
   | ((with_reducible refine (hc).mono ?_);rintro e w1 ⟨rfl,nS,hn,hu,hf⟩)
   | fail)
  go_ret2;exact ⟨rfl,HK.out _ _ hn hu hf⟩
theorem oC (h:bA K w p F kd d R A q) (hh k:Int) (hB:aR A hh=false) :
  Calls Tryz.prog 17 #[.pointer (some ⟨p,0,none⟩),.int .i64 hh,.int .i64 k] w λe w'=>e=.returned (.tuple #[.agg #[.int .i64 0,.int .u32 0],.int .i64 171])/\aa [] w w':=by
 obtain ⟨pa,pn,Fa,Fn,rfl,h⟩:=h;have c3:=h.c3;have hpl:=h.head.lt;have hN:=K.upd h.nest (((aa.refl [] w).alloc (.cells #[.int .i64 0,.int .u32 0] 46))) σ;obtain ⟨f,fv,hen,iP⟩:=K.has hh hN;unfold Enters at hen;have hm:=(iP _ (aa.refl _ _)).1;have hc:=(iP _ (aa.refl _ _)).2;rw [hB] at hc;clear h iP hN
 go_enter Tryz.func17,Tryz.ntmps17
 go_wp2_with (first
  | ((with_reducible refine (hc).mono ?_);rintro e w1 ⟨rfl,rfl⟩)
  | fail)
 exact bodyPost_ret (v:=.tuple #[.agg #[.int .i64 0,.int .u32 0],.int .i64 171]) (by simp [results,Tryz.results17,go_sem]) rfl ⟨rfl,β⟩
end
end Go.Proofs.YtnpdakpagnpanaaGreat
namespace Go.Proofs.YtnpdakpagnpanaaGreat
open Go.RowKit
def jE (k d:Int):Int:=
 if k<1\/8<k then 21 else if (k=2/\(d<2\/16<d))\/(k≠2/\d≠0) then 22 else 0
theorem AJ {k d:Int} (h:k<1\/8<k):jE k d=21:=by unfold jE;rw [Δ h]
theorem zG {k d:Int} (h:¬ (k<1\/8<k)) (h2:(k=2/\(d<2\/16<d))\/(k≠2/\d≠0)):jE k d=22:=by unfold jE;rw [Γ h,Δ h2]
theorem D6 {k d:Int} (h:¬ (k<1\/8<k)) (h2:¬ ((k=2/\(d<2\/16<d))\/(k≠2/\d≠0))):jE k d=0:=by unfold jE;rw [Γ h,Γ h2]
theorem ql {k d:Int} (h:jE k d=0):1<=k/\k<=8/\(k=2->2<=d/\d<=16)/\(k≠2->d=0):=by
 unfold jE at h;split at h
 ·omega
 ·split at h
  ·omega
  ·omega
theorem jq (k d:Int) (w:World) :
  Calls Tryz.prog 33 #[.agg #[.int .i64 k,.int .i64 d]] w λe w'=>e=.returned (.int .i64 (jE k d))/\aa [] w w':=by
 go_enter Tryz.func33,Tryz.ntmps33
 go_wp2
 all_goals
  go_ret;refine ⟨fo ?_,(aa.refl _ _).alloc _⟩
  try simp only [bne_iff_ne,ne_eq,bne_eq_false_iff_eq] at *
  first
  | (rw [AJ ω];done)
  | (rw [zG ω ω];done)
  | (rw [D6 ω ω];done)
theorem uA (k d:Int) (w:World) :
  Calls Tryz.prog 21 #[.agg #[.int .i64 k,.int .i64 d]] w λe w'=>e=.returned (.int .i64 (jE k d))/\aa [] w w':=by
 go_enter Tryz.func21,Tryz.ntmps21
 go_wp2
 all_goals
  go_ret;refine ⟨fo ?_,(aa.refl _ _).alloc _⟩
  try simp only [bne_iff_ne,ne_eq,bne_eq_false_iff_eq,beq_iff_eq,beq_eq_false_iff_ne] at *
  first
  | (rw [AJ ω];done)
  | (rw [zG ω ω];done)
  | (rw [D6 ω ω];done)
end Go.Proofs.YtnpdakpagnpanaaGreat
namespace Go.Proofs.YtnpdakpagnpanaaGreat
open Go Go.RowKit
def lX (w:World) (p n:Nat):Prop:=∃c F1,w.cell? ⟨p,0,none⟩=some (.pointer (some ⟨c,0,none⟩))/\ai w c F1 (NS.new n) 0
def fP (K:bV) (kd d:Int) (n:Nat):Prop:=∀W:World,Calls Tryz.prog 35 #[.agg #[.int .i64 kd,.int .i64 d],.int .i64 (n:Int)] W λe w'=>∃pn Fn,e=.returned (.tuple #[.iface K.ty (.pointer (some ⟨pn,0,none⟩)),.int .i64 0])/\K.at_ w' pn Fn (NS.new n)/\lX w' pn n/\aa [] W w'/\∀x,x∈Fn->W.heap.size<=x
theorem y5 (n:Nat) (x:Nat):dh (NS.new n) (x:Int)=false:=by
 cases h:dh (NS.new n) (x:Int) with
 | false=>rfl
 | true=>have:=(aK _ _).1 h;rw [NS.iW] at this;exact absurd this.2 (by simp [Cl.z])
theorem Ee (n m x:Nat):(AR.new n m).v x=false:=by
 unfold AR.new AR.v;simp only [φ,List.getElem?_replicate]
 split<;>rfl
theorem o5 {K:bV} {kd d:Int} (n m:Nat) (w:World) (hn:n<=65536) (hm:1<=m/\m<=4294967295) (hc:jE kd d=0) (ko:fP K kd d n) :
  Calls Tryz.prog 11 #[.agg #[.int .i64 kd,.int .i64 d],.int .i64 (n:Int),.int .u32 (m:Int)] w λe w'=>∃p F,e=.returned (.tuple #[.pointer (some ⟨p,0,none⟩),.int .i64 0])/\bA K w' p F kd d (AR.new n m) (NS.new n) 0/\aa [] w w'/\∀x,x∈F->w.heap.size<=x:=by
 have kc:=λW=>jq kd d W;rw [hc] at kc;have ka:=λW=>oP n m W hn hm;unfold fP at ko;have hcs:(NS.new n).cs.length=n:=by simp [NS.new]
 have hal:(AR.new n m).sl.length=n:=by simp [AR.new]
 have HL:=χ (ψ hcs hal);clear hcs hal hc
 go_enter Tryz.func11,Tryz.ntmps11
 go_wp2_with (first
  | ((go_at_call 33;(with_reducible refine (kc _).mono ?_));rintro e w1 ⟨rfl,hu1⟩;(have q0:w1.cell? ⟨w.heap.size,0,none⟩=some (.int .i64 kd):=hu1.was γ);(have q1:w1.cell? ⟨w.heap.size,1,none⟩=some (.int .i64 d):=hu1.was γ);(have hw1:aa [] w w1:=aa.trans β hu1))
  | ((go_at_call 34;(with_reducible refine (ka _).mono ?_));rintro e w2 ⟨pa,Fa,rfl,hA,hu2,hfa⟩;(have q2:=hu2.was q0);(have q3:=hu2.was q1))
  | ((go_at_call 35;(with_reducible refine (ko _).mono ?_));rintro e w3 ⟨pn,Fn,rfl,hN,hZ,hu3,hfn⟩;(have q4:=hu3.was q2);(have q5:=hu3.was q3))
  | fail)
 go_ret2;have hh:=aY w3 [.int .i64 kd,.int .i64 d,.pointer (some ⟨pa,0,none⟩),.iface K.ty (.pointer (some ⟨pn,0,none⟩)),.int .u64 0] 89;have hb:aa [] w3 (w3.alloc (.cells #[.int .i64 kd,.int .i64 d,.pointer (some ⟨pa,0,none⟩),.iface K.ty (.pointer (some ⟨pn,0,none⟩)),.int .u64 0] 89)):=(aa.refl _ _).alloc _;have GK:=hA.lt;have JC:=K.lt hN;have s3:=hu3.size;have s1:=hw1.size;have s2:=hu2.size
 refine ⟨w3.heap.size,w3.heap.size::(Fa++Fn),rfl,⟨pa,pn,Fa,Fn,rfl,⟨hh.ext (λj hj=>by unfold FE;rfl),(hA.upd hu3 σ).upd hb σ,K.upd hN hb σ,λe=>by have:=GK _ e;omega,λe=>by have:=JC _ e;omega,λx h1 h2=>by have:=GK x h1;have:=hfn x h2;omega,by rw [HL.out.1,HL.out.2],λx=>by rw [Ee,y5]⟩⟩,((hw1.trans hu2).trans hu3).trans hb,λx hx=>?_⟩;simp only [ρ,τ] at hx;rcases hx with rfl|hx|hx
 ·omega
 ·have:=hfa x hx;omega
 ·have:=hfn x hx;omega
section
variable {K:bV} {w:World} {p pa pn:Nat} {Fa Fn F:List Nat} {kd d:Int} {R:AR} {A:NS} {q:Nat}
theorem pR (h:bA K w p F kd d R A q) (hh k:Int) (hB:aR A hh=true) (hT:iH R=none) :
  Calls Tryz.prog 17 #[.pointer (some ⟨p,0,none⟩),.int .i64 hh,.int .i64 k] w λe w'=>e=.returned (.tuple #[.agg #[.int .i64 0,.int .u32 0],.int .i64 32])/\aa [] w w':=by
 obtain ⟨pa,pn,Fa,Fn,rfl,h⟩:=h;have c2:=h.c2;have c3:=h.c3;have hpl:=h.head.lt;have hu0:aa [] w (w.alloc (.cells #[.int .i64 0,.int .u32 0] 46)):=(aa.refl [] w).alloc _;have hN:=K.upd h.nest hu0 σ;have kt:=λW (hW:aa [] w W)=>si (h.ar.upd hW σ) hT;obtain ⟨f,fv,hen,iP⟩:=K.has hh hN;unfold Enters at hen;have hm:=(iP _ (aa.refl _ _)).1;have hc:=(iP _ (aa.refl _ _)).2;rw [hB] at hc;clear h iP hN
 go_enter Tryz.func17,Tryz.ntmps17
 go_wp2_with (first
  | ((with_reducible refine (hc).mono ?_);rintro e w1 ⟨rfl,rfl⟩)
  | ((go_at_call 40;(with_reducible refine (kt _ β).mono ?_));rintro e w2 ⟨rfl,hu2⟩;(have q0:w2.cell? ⟨w.heap.size,0,none⟩=some (.int .i64 0):=hu2.was γ);(have q1:w2.cell? ⟨w.heap.size,1,none⟩=some (.int .u32 0):=hu2.was γ);(have f0:w2.frozen? ⟨w.heap.size,0,none⟩=false:=hu2.aF (v:=.int .i64 0) γ σ γ);(have f1:w2.frozen? ⟨w.heap.size,1,none⟩=false:=hu2.aF (v:=.int .u32 0) γ σ γ);(have hrl:=Ε w2 _ q0);(have hu2':aa [] w w2:=hu0.trans hu2))
  | fail)
 exact bodyPost_ret (v:=.tuple #[.agg #[.int .i64 0,.int .u32 0],.int .i64 32]) (by simp [results,Tryz.results17,go_sem,hrl,q0,q1]) rfl ⟨rfl,β⟩
theorem Fq {A:NS} {hh x k s:Int} (hB:iq A hh x=true) (y:Nat):dh (af A hh x k s) (y:Int)=(dh A (y:Int) || decide ((y:Int)=x)):=by
 obtain ⟨b1,b2,b3⟩:=(bG _ _ _).1 hB;have b4:=(aA _ _).1 b1;have b5:=(bS _ _).1 b2;unfold af;rw [Δ hB];have e1:dh (fu A x.toNat ⟨hh,k,s⟩) (y:Int)=true↔(dh A (y:Int) || decide ((y:Int)=x))=true:=by
  rw [aK,bU,fE,Bool.or_eq_true,aK,Ο]
  by_cases e:y=x.toNat
  ·rw [Δ ⟨e,ω⟩];constructor
   ·intro _;right;omega
   ·intro _;exact ⟨ω,by show 0<hh;omega⟩
  ·rw [Γ (λh=>e h.1)];constructor
   ·intro h;exact Α h
   ·rintro (h|h)
    ·exact h
    ·omega
 cases h1:dh (fu A x.toNat ⟨hh,k,s⟩) (y:Int)<;>cases h2:(dh A (y:Int) || decide ((y:Int)=x))<;>simp_all
theorem AA (A:NS) (h x k s:Int):(af A h x k s).cs.length=A.cs.length:=by unfold af;split;exact bU _ _ _;rfl
theorem EU {R R':AR} {x:Nat} (h:R.Ok) (hp:iH R=some (x,R')) (y:Nat):R'.v y=(R.v y || decide ((y:Int)=(x:Int))):=by
 obtain ⟨_,h1,h2,_,h3,_⟩:=qw h hp;have e:R'.v y=(R.put x (R.g x+1,true)).v y:=by unfold AR.v AR.put;rw [h3]
 rw [e,AR.r9]
 by_cases e2:y=x
 ·rw [Δ ⟨e2,h1⟩,e2];simp
 ·rw [Γ (λh=>e2 h.1),Ξ ω];simp
theorem lT (h:bA K w p F kd d R A q) (hh k:Int) (hB:aR A hh=true) (hk:-9223372036854775808<=k/\k<=9223372036854775807) (hq:q+1<=18446744073709551615) {x:Nat} {R':AR} (hT:iH R=some (x,R')) :
  Calls Tryz.prog 17 #[.pointer (some ⟨p,0,none⟩),.int .i64 hh,.int .i64 k] w λe w'=>e=.returned (.tuple #[.agg #[.int .i64 (x:Int),.int .u32 ((R.g x:Int)+1)],.int .i64 0])/\
   Goes F w w' (λF'=>bA K w' p F' kd d R' (af A hh (x:Int) k ((q:Int)+1)) (q+1)):=by
 obtain ⟨hh,rfl⟩:∃n:Nat,hh=n:=⟨hh.toNat,by have:=(aA _ _).1 hB;omega⟩;obtain ⟨pa,pn,Fa,Fn,rfl,h⟩:=h;have hok:=K.ok h.nest;have Cm:=qw h.ar.ok hT;have qO:=h.link;have hBp:iq A (hh:Int) (x:Int)=true:=by
  rw [bG];refine ⟨hB,(bS _ _).2 ⟨ω,by have:=h.len;omega⟩,?_⟩;rw [←h.link];exact Cm.2.2.1
 have hb4:=(aA _ _).1 hB;have gW:=hok.h1;have hsn:=hok.c1;have hxl:=Cm.2.1;have hlen:=h.len;have hac:-9223372036854775808<=k/\k<=9223372036854775807/\0<=(q:Int)+1/\(q:Int)+1<=18446744073709551615:=ω;have c2:=h.c2;have c3':=h.c3;have I5:=h.c4;have f4':=h.head.free 4;have hpl:=h.head.lt;have Gc:=h.ar.lt;have hFn:=K.lt h.nest;have hs1:=h.s1;have hs2:=h.s2;have hs3:=h.s3;have hu0:aa [] w (w.alloc (.cells #[.int .i64 0,.int .u32 0] 46)):=(aa.refl [] w).alloc _;have hN:=K.upd h.nest hu0 σ;have kt:=λW (hW:aa [] w W)=>rV (h.ar.upd hW σ) hT;obtain ⟨f,fv,hen,iP⟩:=K.has hh hN;unfold Enters at hen
 have hm:=(iP _ (aa.refl _ _)).1;have hc:=(iP _ (aa.refl _ _)).2;rw [hB] at hc;have hwq:IntKind.u64.wrap ((q:Int)+1)=(q:Int)+1:=IntWalk.u64_in _ ω;have tX:w.heap.size∉Fa:=λe=>by have:=Gc _ e;omega
 have HH:=χ (ψ h (ψ hN (ψ hac (ψ Gc (ψ hFn (ψ hs3 (ψ qO Cm)))))));have HBp:=χ hBp;clear h iP hN hac Gc hFn hs3 qO Cm hok hB hBp
 go_enter Tryz.func17,Tryz.ntmps17
 go_upto_region 7 with (first
  | ((with_reducible refine (hc).mono ?_);rintro e w1 ⟨rfl,rfl⟩)
  | ((go_at_call 40;(with_reducible refine (kt _ β).mono ?_));rintro e w2 ⟨rfl,DN,hA2,huA,hfA⟩;(have c3:w2.cell? ⟨p,3,none⟩=some (.iface K.ty (.pointer (some ⟨pn,0,none⟩))):=huA.kept (hu0.was c3') hs1);(have c4:w2.cell? ⟨p,4,none⟩=some (.int .u64 (q:Int)):=huA.kept (hu0.was I5) hs1);(have f4:w2.frozen? ⟨p,4,none⟩=false:=huA.aF (hu0.was I5) hs1 (hu0.aF I5 σ f4'));(have q0:w2.cell? ⟨w.heap.size,0,none⟩=some (.int .i64 0):=huA.kept γ tX);(have q1:w2.cell? ⟨w.heap.size,1,none⟩=some (.int .u32 0):=huA.kept γ tX);(have f0:w2.frozen? ⟨w.heap.size,0,none⟩=false:=huA.aF (v:=.int .i64 0) γ tX γ);(have f1:w2.frozen? ⟨w.heap.size,1,none⟩=false:=huA.aF (v:=.int .u32 0) γ tX γ);(have hp2:=Ε w2 _ c3);(have hr2:=Ε w2 _ q0))
  | fail)
 obtain ⟨h,hN0,hac,Gc,hFn,hs3,qO,Cm⟩:=HH.out;have hd2:ak w2 p 89 5 (FE K pa pn kd d q):=(h.head.upd hu0 σ).upd huA hs1;have hN2:K.at_ w2 pn Fn A:=K.upd hN0 huA hs3;have DX:aa [p] w2 ((w2.setCell ⟨p,4,none⟩ (.int .u64 ((q:Int)+1))).alloc (.cells #[.int .i64 (x:Int),.int .u32 ((R.g x:Int)+1)] 46)):=((aa.refl _ _).setCell (Α σ) _).alloc _;have Ac:p∉DN:=λe=>by rcases hfA _ e with e|e;exact hs1 e;simp at e;omega
 have hrFa:∀z,z∈DN->z<w2.heap.size:=hA2.lt
 refine dW (λW=>ak W p 89 5 (FE K pa pn kd d (q+1))/\iN W pa DN R'/\K.at_ W pn Fn A/\W.cell? ⟨w2.heap.size,0,none⟩=some (.int .i64 (x:Int))/\W.cell? ⟨w2.heap.size,1,none⟩=some (.int .u32 ((R.g x:Int)+1))/\
  W.cell? ⟨w.heap.size,0,none⟩=some (.int .i64 0)/\W.cell? ⟨w.heap.size,1,none⟩=some (.int .u32 0)/\W.frozen? ⟨w.heap.size,0,none⟩=false/\W.frozen? ⟨w.heap.size,1,none⟩=false/\aa [p] w2 W)
  ⟨((hd2.set 4 _).ext (λj hj=>?_)).alloc _,hA2.upd DX (λz hz=>by simp at hz;rw [hz];exact Ac),K.upd hN2 DX (λz hz=>by simp at hz;rw [hz];exact hs2),γ,γ,DX.kept q0 ζ,DX.kept q1 ζ,DX.aF q0 ζ f0,DX.aF q1 ζ f1,DX⟩ ?_
 ·rcases (ω:j=0\/j=1\/j=2\/j=3\/j=4) with rfl|rfl|rfl|rfl|rfl<;>simp [FE]
 rintro W ⟨hd,hA,hN,x0,x1,r0,r1,ET,Ck,Jc⟩;have z3:W.cell? ⟨p,3,none⟩=some (.iface K.ty (.pointer (some ⟨pn,0,none⟩))):=hd.cellAt 3 ω rfl;have z4:W.cell? ⟨p,4,none⟩=some (.int .u64 ((q:Int)+1)):=hd.cellAt 4 ω (by simp [FE]);obtain ⟨f2,fv2,zq,nK⟩:=K.insert hh x k ((q:Int)+1) hac HBp.out hN;unfold Enters at zq;have hm2:=(nK W.drew ((aa.refl _ _).drew)).1;have hc2:=(nK W.drew ((aa.refl _ _).drew)).2;have hszW:=Jc.size;have hrw:w.heap.size<W.heap.size:=ω;have hxw:w2.heap.size<W.heap.size:=Ε W _ x0;have Il:w2.heap.size∉Fn:=λe=>by have:=hFn _ e;omega
 have jO:w.heap.size∉Fn:=λe=>by have:=hFn _ e;omega
 have AY:∀z,z∈DN->z∈Fn->False:=λz h1 h2=>by
  rcases hfA z h1 with e|e
  ·exact hs3 z e h2
  ·have:=hFn z h2;simp at e;omega
 have Eh:∀z,z∈DN->z<W.heap.size:=hA.lt;have G6:aa (p::(Fa++Fn)) w w2:=aa.trans ((aa.refl _ _).alloc _) (huA.mono (λz hz=>by simp [hz]));have Jl:Hid (∀w5 F5,K.at_ w5 pn F5 (af A hh (x:Int) k ((q:Int)+1))->aa Fn W.drew w5->(∀z,z∈F5->z∈Fn\/W.drew.heap.size<=z)->∀v0 v1,Goes (p::(Fa++Fn)) w ((w5.setCell ⟨w.heap.size,0,none⟩ v0).setCell ⟨w.heap.size,1,none⟩ v1) (λF'=>bA K ((w5.setCell ⟨w.heap.size,0,none⟩ v0).setCell ⟨w.heap.size,1,none⟩ v1) p F' kd d R' (af A hh (x:Int) k ((q:Int)+1)) (q+1))):=by
  intro w5 F5 Jp zF FQ v0 v1;have dV:aa Fn W w5:=((aa.refl Fn W).drew).trans zF;have hr:aa [w.heap.size] w5 ((w5.setCell ⟨w.heap.size,0,none⟩ v0).setCell ⟨w.heap.size,1,none⟩ v1):=((aa.refl _ _).setCell (Α σ) _).setCell (Α σ) _;have Kv:w.heap.size∉F5:=λe=>by rcases FQ _ e with e|e;exact jO e;have e':W.heap.size<=w.heap.size:=e;omega
  have H5:w.heap.size∉DN:=λe=>by rcases hfA _ e with e|e;have:=Gc _ e;omega;simp at e;omega
  refine ⟨p::(DN++F5),⟨pa,pn,DN,F5,rfl,⟨(hd.upd dV hs2).upd hr ζ,(hA.upd dV (λz h1 h2=>AY z h2 h1)).upd hr (λz hz=>by simp at hz;rw [hz];exact H5),K.upd Jp hr (λz hz=>by simp at hz;rw [hz];exact Kv),Ac,λe=>?_,λz h1 h2=>?_,?_,λy=>?_⟩⟩,?_,λz hz=>?_⟩
  ·rcases FQ _ e with e|e
   ·exact hs2 e
   ·have e':W.heap.size<=p:=e;omega
  ·rcases FQ _ h2 with e|e
   ·exact AY z h1 e
   ·have e':W.heap.size<=z:=e;have:=Eh z h1;omega
  ·rw [AA,←hlen,Cm.2.2.2.2.1];simp
  ·rw [EU h.ar.ok hT,Fq HBp.out,qO]
  ·have h1:=(G6.trans (Jc.mono σ)).trans (dV.mono (λz hz=>by simp [hz]));exact (h1.setCell (Β (Θ _)) _).setCell (Β (Θ _)) _
  ·simp only [ρ,τ] at hz ⊢;rcases hz with hz|hz|hz
   ·exact Α (Α hz)
   ·rcases hfA z hz with e|e
    ·exact Α (Β (Α e))
    ·simp at e;exact Β ω
   ·rcases FQ z hz with e|e
    ·exact Α (Β (Β e))
    ·have e':W.heap.size<=z:=e;exact Β ω
 clear h hN0 hac Gc hFn qO Cm hd2 hN2 hd hA hN Jc nK q0 q1 f0 f1 c3 c4 f4 c2 c3' I5 f4' hc hm hen kt hA2 DX huA hfA Ac AY Eh G6
 go_region_law
  (first
   | (go_simp;(with_reducible refine (hc2).mono ?_);rintro e w5 ⟨rfl,F5,Jp,dV,FQ⟩;(have y0:=dV.kept x0 Il);(have y1:=dV.kept x1 Il);(have t0:=dV.kept r0 jO);(have t1:=dV.kept r1 jO);(have tf0:=dV.aF r0 jO ET);(have tf1:=dV.aF r1 jO Ck)))
 all_goals
  go_wp2;exact bodyPost_ret (v:=.tuple #[.agg #[.int .i64 (x:Int),.int .u32 ((R.g x:Int)+1)],.int .i64 0]) (by simp [results,Tryz.results17,go_sem,t0,t1]) rfl ⟨rfl,Jl.out _ _ Jp dV FQ _ _⟩
end
section
variable {K:bV} {w:World} {p pa pn:Nat} {Fa Fn F:List Nat} {kd d:Int} {R:AR} {A:NS} {q:Nat}
theorem uC (h:bA K w p F kd d R A q) (x:Nat) (hv:R.v x=true) :
  Calls Tryz.prog 42 #[.pointer (some ⟨p,0,none⟩),.agg #[.int .i64 (x:Int),.int .u32 (R.g x:Int)]] w λe w'=>e=.returned (.tuple #[.agg #[.int .i64 (A.c x).k,.int .u64 (A.c x).s],.int .i64 0])/\aa [] w w':=by
 obtain ⟨pa,pn,Fa,Fn,rfl,h⟩:=h;have hin:dh A (x:Int)=true:=by rw [←h.link];exact hv
 have hx:=AR.Ho hv;have hgm:=h.ar.ok.gm x;have hmo:=h.ar.ok.G8;have hlv:wB R (x:Int) (R.g x:Int)=true:=by
  unfold wB;rw [show ((x:Nat):Int).toNat=x by omega,hv,Ν (ω:(0:Int)<=x),Ν (ω:(x:Int)<R.sl.length)];simp
 have kl:=λW (hW:aa [] w W)=>vV (h.ar.upd hW σ) (x:Int) (R.g x:Int) ω;rw [hlv] at kl;have c2':=h.c2;have c3':=h.c3;have HH:=χ h;clear h hlv hv;generalize R.g x=gx at *
 go_enter Tryz.func42,Tryz.ntmps42
 go_upto_region 1 with (fail)
 refine dW (λW=>W.cell? ⟨w.heap.size,0,none⟩=some (.int .i64 (x:Int))/\W.cell? ⟨w.heap.size,1,none⟩=some (.int .u32 (gx:Int))/\W.cell? ⟨w.heap.size+1,0,none⟩=some (.int .i64 0)/\W.cell? ⟨w.heap.size+1,1,none⟩=some (.int .u64 0)/\W.frozen? ⟨w.heap.size+1,0,none⟩=false/\W.frozen? ⟨w.heap.size+1,1,none⟩=false/\aa [] w W) ⟨σ,σ,σ,σ,σ,σ,β⟩ ?_;rintro W ⟨x0,x1,r0,r1,ET,Ck,hu⟩;have kl1:=λX (hX:aa [] W X)=>kl X (hu.trans hX);have e0:∀X,aa [] W X->X.cell? ⟨w.heap.size,0,none⟩=some (.int .i64 (x:Int)):=λX h=>h.was x0
 have e1:∀X,aa [] W X->X.cell? ⟨w.heap.size,1,none⟩=some (.int .u32 (gx:Int)):=λX h=>h.was x1;have e2:∀X,aa [] W X->X.cell? ⟨p,2,none⟩=some (.pointer (some ⟨pa,0,none⟩)):=λX h=>h.was (hu.was c2');have HU:=χ (ψ hu (ψ x0 (ψ r0 (ψ r1 (ψ ET Ck)))));clear hu x0 x1 r0 r1 ET Ck kl c2'
 go_region_held3 (aa [] W) (exact ν)
  (first
   | ((go_at_call 73;(with_reducible refine (kl1 _ ν).mono ?_));rintro e w1 ⟨rfl,hu1⟩;(have hv1:aa [] W w1:=aa.trans ν hu1)))
 go_upto_region 3 with (fail)
 obtain ⟨hu,x0,r0,r1,ET,Ck⟩:=HU.out;refine dW (λX=>aa [] W X) β ?_;intro X hX;have y0:=hX.was x0;have z3:=hX.was (hu.was c3');have t0:=hX.was r0;have t1:=hX.was r1;have J9:=hX.aF r0 σ ET;have JU:=hX.aF r1 σ Ck;have hN:=K.upd HH.out.nest (hu.trans hX) σ;obtain ⟨f,fv,hen,iP⟩:=K.entry (x:Int) hN;unfold Enters at hen;have hm:=(iP X.drew ((aa.refl _ _).drew)).1;have hc:=(iP X.drew ((aa.refl _ _).drew)).2;have huB:aa [] X (X.alloc (.cells #[.int .i64 0,.int .u64 0] 97)).drew:=((aa.refl _ _).alloc _).drew;have tB0:=huB.was t0;have tB1:=huB.was t1;have Gi:=huB.aF t0 σ J9;have Im:=huB.aF t1 σ JU
 have nB0:(X.alloc (.cells #[.int .i64 0,.int .u64 0] 97)).drew.cell? ⟨X.heap.size,0,none⟩=some (.int .i64 0):=σ;have nB1:(X.alloc (.cells #[.int .i64 0,.int .u64 0] 97)).drew.cell? ⟨X.heap.size,1,none⟩=some (.int .u64 0):=σ;have Iy:(X.alloc (.cells #[.int .i64 0,.int .u64 0] 97)).drew.frozen? ⟨X.heap.size,0,none⟩=false:=σ;have H6:(X.alloc (.cells #[.int .i64 0,.int .u64 0] 97)).drew.frozen? ⟨X.heap.size,1,none⟩=false:=σ;have HB:=χ (ψ tB0 (ψ tB1 (ψ Gi (ψ Im (ψ nB0 (ψ nB1 (ψ Iy H6)))))));clear tB0 tB1 Gi Im nB0 nB1 Iy H6;have IU:=(iP _ huB).1;have hcB:=(iP _ huB).2
 rw [hin,show ((x:Nat):Int).toNat=x by omega] at hc hcB;simp only [if_true] at hc hcB;have hrl:=Ε X _ t0;have hxl:=Ε X _ y0;have hpl:=Ε X _ z3;dsimp only at hrl hxl hpl;have HU2:=χ (hu.trans hX);clear hu x0 r0 r1 ET Ck hX hN iP huB kl1 e0 e1 e2 c3';generalize hkk:(A.c x).k=kk at *;generalize hss:(A.c x).s=ss at *;have HKS:=χ (ψ hkk hss);clear hkk hss
 go_region_law
  (first
   | (go_simp;(with_reducible refine (hc).mono ?_);rintro e w5 ⟨rfl,dV⟩;(have s0:w5.cell? ⟨w.heap.size+1,0,none⟩=some (.int .i64 0):=dV.was t0);(have s1:w5.cell? ⟨w.heap.size+1,1,none⟩=some (.int .u64 0):=dV.was t1);(have fs0:=dV.aF (v:=.int .i64 0) t0 σ J9);(have fs1:=dV.aF (v:=.int .u64 0) t1 σ JU);(have hsl:=Ε w5 _ s0))
   | (go_simp;(with_reducible refine (hcB).mono ?_);rintro e w5 ⟨rfl,dV⟩;(have s0:=dV.was HB.out.1);(have s1:=dV.was HB.out.2.1);(have fs0:=dV.aF HB.out.1 σ HB.out.2.2.1);(have fs1:=dV.aF HB.out.2.1 σ HB.out.2.2.2.1);(have hsl:=Ε w5 _ s0);(have b0:=dV.was HB.out.2.2.2.2.1);(have b1:=dV.was HB.out.2.2.2.2.2.1);(have fb0:=dV.aF HB.out.2.2.2.2.1 σ HB.out.2.2.2.2.2.2.1);(have fb1:=dV.aF HB.out.2.2.2.2.2.1 σ HB.out.2.2.2.2.2.2.2)))
 all_goals
  go_wp2;have h5:aa [] w w5:=HU2.out.trans (aa.trans β dV);have h6:=h5.size;exact bodyPost_ret (v:=.tuple #[.agg #[.int .i64 kk,.int .u64 ss],.int .i64 0]) (by simp [results,Tryz.results42,go_sem, *]) rfl ⟨by rw [HKS.out.1,HKS.out.2],β⟩
end
section
variable {K:bV} {w:World} {p pa pn:Nat} {Fa Fn F:List Nat} {kd d:Int} {R:AR} {A:NS} {q:Nat}
theorem nR.moved (h:nR K w p pa pn Fa Fn kd d R A q) {w':World} {nS:List Nat} (hn:K.at_ w' pn nS A) (hu:aa Fn w w') (hf:∀x,x∈nS->x∈Fn\/w.heap.size<=x):Goes (p::(Fa++Fn)) w w' (λF'=>bA K w' p F' kd d R A q):=by
 refine ⟨p::(Fa++nS),⟨pa,pn,Fa,nS,rfl,h.Ef hn hu hf rfl (h.ar.upd hu (λx hx hm=>h.s3 x hm hx)) rfl h.link⟩,hu.mono (λx hx=>by simp [hx]),λx hx=>?_⟩;simp only [ρ,τ] at hx ⊢;rcases hx with hx|hx|hx
 ·exact Α (Α hx)
 ·exact Α (Β (Α hx))
 ·rcases hf x hx with hx|hx
  ·exact Α (Β (Β hx))
  ·exact Β hx
theorem Goes.IV {F S:List Nat} {w w0 w1 w2:World} {p:Nat} {kd d:Int} (h:Goes F w0 w1 (λF'=>bA K w1 p F' kd d R A q)) (hu:aa S w1 w2) (hw:aa [] w w0) (hS:∀r,r∈S->r<w0.heap.size/\r∉F/\w.heap.size<=r):Goes F w w2 (λF'=>bA K w2 p F' kd d R A q):=by
 obtain ⟨F',h1,h2,h3⟩:=h;refine ⟨F',h1.upd hu (λr hr hm=>?_),((hw.mono σ).trans h2).joined hu (λr hr=>Β (hS r hr).2.2),λx hx=>by rcases h3 x hx with h|h;exact Α h;exact Β (Χ hw.size h)⟩;rcases h3 r hm with e|e
 ·exact (hS r hr).2.1 e
 ·have:=(hS r hr).1;omega
theorem qd (h:bA K w p F kd d R A q) (hh:Int) (hB:aR A hh=false) :
  Calls Tryz.prog 41 #[.pointer (some ⟨p,0,none⟩),.int .i64 hh] w λe w'=>e=.returned (.tuple #[.agg #[.int .i64 0,.int .u32 0],.int .i64 171])/\aa [] w w':=by
 obtain ⟨pa,pn,Fa,Fn,rfl,h⟩:=h;have c3:=h.c3;have hpl:=h.head.lt;have hN:=K.upd h.nest (((aa.refl [] w).alloc (.cells #[.int .i64 0,.int .u32 0] 46))) σ;obtain ⟨f,fv,hen,iP⟩:=K.has hh hN;unfold Enters at hen;have hm:=(iP _ (aa.refl _ _)).1;have hc:=(iP _ (aa.refl _ _)).2;rw [hB] at hc;clear h iP hN
 go_enter Tryz.func41,Tryz.ntmps41
 go_wp2_with (first
  | ((with_reducible refine (hc).mono ?_);rintro e w1 ⟨rfl,rfl⟩)
  | fail)
 exact bodyPost_ret (v:=.tuple #[.agg #[.int .i64 0,.int .u32 0],.int .i64 171]) (by simp [results,Tryz.results41,go_sem]) rfl ⟨rfl,β⟩
theorem rf (h:bA K w p F kd d R A q) (hh:Int) (hB:aR A hh=true) (hb:-9223372036854775808<=hh/\hh<=9223372036854775807) (hM:bQ A hh=none) :
  Calls Tryz.prog 41 #[.pointer (some ⟨p,0,none⟩),.int .i64 hh] w λe w'=>e=.returned (.tuple #[.agg #[.int .i64 0,.int .u32 0],.int .i64 172])/\Goes F w w' (λF'=>bA K w' p F' kd d R A q):=by
 obtain ⟨hh,rfl⟩:∃n:Nat,hh=n:=⟨hh.toNat,by have:=(aA _ _).1 hB;omega⟩;obtain ⟨pa,pn,Fa,Fn,rfl,h⟩:=h;have c3:=h.c3;have hpl:=h.head.lt;have hu0:aa [] w (w.alloc (.cells #[.int .i64 0,.int .u32 0] 46)):=(aa.refl [] w).alloc _;have hN:=K.upd h.nest hu0 σ;obtain ⟨f,fv,hen,iP⟩:=K.has hh hN;obtain ⟨f2,fv2,zq,nK⟩:=K.min hh hB hN;unfold Enters at hen zq;have hm:=(iP _ (aa.refl _ _)).1;have hc:=(iP _ (aa.refl _ _)).2;have hm2:=(nK _ (aa.refl _ _)).1;have hc2:=(nK _ (aa.refl _ _)).2;rw [hB] at hc;rw [hM,show nI none=0 from rfl,show (none:Option Nat).isSome=false from rfl] at hc2
 have jO:w.heap.size∉Fn:=λe=>by have:=K.lt h.nest _ e;omega
 have HG:=χ (λw1 nS (hn:K.at_ w1 pn nS A) (hu:aa Fn (w.alloc (.cells #[.int .i64 0,.int .u32 0] 46)) w1) hf w2 (hu2:aa [w.heap.size] w1 w2)=>((h.upd hu0 σ).moved hn hu hf).IV hu2 hu0 (λr hr=>by simp at hr;subst hr;exact ⟨σ,λe=>by have:=h.lt _ e;omega,Θ _⟩));clear h iP hN nK
 go_enter Tryz.func41,Tryz.ntmps41
 go_wp2_with (first
  | ((with_reducible refine (hc).mono ?_);rintro e w1 ⟨rfl,rfl⟩)
  | ((with_reducible refine (hc2).mono ?_);rintro e w2 ⟨rfl,nS,hn,hu,hf⟩;(have q0:w2.cell? ⟨w.heap.size,0,none⟩=some (.int .i64 0):=hu.kept γ jO);(have q1:w2.cell? ⟨w.heap.size,1,none⟩=some (.int .u32 0):=hu.kept γ jO);(have f0:w2.frozen? ⟨w.heap.size,0,none⟩=false:=hu.aF (v:=.int .i64 0) γ jO γ);(have f1:w2.frozen? ⟨w.heap.size,1,none⟩=false:=hu.aF (v:=.int .u32 0) γ jO γ);(have hrl:=Ε w2 _ q0))
  | fail)
 exact bodyPost_ret (v:=.tuple #[.agg #[.int .i64 0,.int .u32 0],.int .i64 172]) (by simp [results,Tryz.results41,go_sem,q0,q1]) rfl ⟨rfl,HG.out _ _ hn hu hf _ (((aa.refl _ _).setCell (Α σ) _).setCell (Α σ) _)⟩
theorem lL (h:bA K w p F kd d R A q) (hh:Int) {m:Nat} (hM:bQ A hh=some m) :
  Calls Tryz.prog 41 #[.pointer (some ⟨p,0,none⟩),.int .i64 hh] w λe w'=>e=.returned (.tuple #[.agg #[.int .i64 (m:Int),.int .u32 (R.g m:Int)],.int .i64 0])/\Goes F w w' (λF'=>bA K w' p F' kd d R A q):=by
 obtain ⟨pa,pn,Fa,Fn,rfl,h⟩:=h;have hok:=K.ok h.nest;obtain ⟨m1,m2,m3,m4⟩:=mg hM;have hB:aR A hh=true:=by rw [←m3];have:=ma hok m4;simpa using this
 obtain ⟨hh,rfl⟩:∃n:Nat,hh=n:=⟨hh.toNat,by have:=(aA _ _).1 hB;omega⟩;have hb4:=(aA _ _).1 hB;have gW:=hok.h1;have hv:R.v m=true:=by rw [h.link];exact m4
 have c2':=h.c2;have c3:=h.c3;have hpl:=h.head.lt;have hu0:aa [] w (w.alloc (.cells #[.int .i64 0,.int .u32 0] 46)):=(aa.refl [] w).alloc _;have hN:=K.upd h.nest hu0 σ;obtain ⟨f,fv,hen,iP⟩:=K.has hh hN;obtain ⟨f2,fv2,zq,nK⟩:=K.min hh hB hN;unfold Enters at hen zq;have hm:=(iP _ (aa.refl _ _)).1;have hc:=(iP _ (aa.refl _ _)).2;have hm2:=(nK _ (aa.refl _ _)).1;have hc2:=(nK _ (aa.refl _ _)).2;rw [hB] at hc;rw [hM,show nI (some m)=(m:Int) from rfl,show (some m).isSome=true from rfl] at hc2;have jO:w.heap.size∉Fn:=λe=>by have:=K.lt h.nest _ e;omega
 have hs3:=h.s3;have ka:=λW (hu:aa Fn (w.alloc (.cells #[.int .i64 0,.int .u32 0] 46)) W)=>AB ((h.ar.upd hu0 σ).upd hu (λx hx hm=>hs3 x hm hx)) m hv;have hpn:=h.s2;have HG:=χ (λw1 nS (hn:K.at_ w1 pn nS A) (hu:aa Fn (w.alloc (.cells #[.int .i64 0,.int .u32 0] 46)) w1) hf w2 (hu2:aa [w.heap.size] w1 w2)=>((h.upd hu0 σ).moved hn hu hf).IV hu2 hu0 (λr hr=>by simp at hr;subst hr;exact ⟨σ,λe=>by have:=h.lt _ e;omega,Θ _⟩));clear h iP hN nK hok hB hv m4 hb4 gW;generalize R.g m=gm at *
 go_enter Tryz.func41,Tryz.ntmps41
 go_wp2_with (first
  | ((with_reducible refine (hc).mono ?_);rintro e w1 ⟨rfl,rfl⟩)
  | ((with_reducible refine (hc2).mono ?_);rintro e w2 ⟨rfl,nS,hn,hu,hf⟩;(have q0:w2.cell? ⟨w.heap.size,0,none⟩=some (.int .i64 0):=hu.kept γ jO);(have q1:w2.cell? ⟨w.heap.size,1,none⟩=some (.int .u32 0):=hu.kept γ jO);(have f0:w2.frozen? ⟨w.heap.size,0,none⟩=false:=hu.aF (v:=.int .i64 0) γ jO γ);(have f1:w2.frozen? ⟨w.heap.size,1,none⟩=false:=hu.aF (v:=.int .u32 0) γ jO γ);(have c2:=hu.kept (hu0.was c2') hpn);(have ka2:=ka _ hu))
  | ((go_at_call 72;(with_reducible refine (ka2).mono ?_));rintro e w3 ⟨rfl,hu3⟩;(have t0:=hu3.was q0);(have t1:=hu3.was q1);(have tf0:=hu3.aF q0 σ f0);(have tf1:=hu3.aF q1 σ f1);(have hrl:=Ε w3 _ t0))
  | fail)
 exact bodyPost_ret (v:=.tuple #[.agg #[.int .i64 (m:Int),.int .u32 (gm:Int)],.int .i64 0]) (by simp [results,Tryz.results41,go_sem,t0,t1,hrl]) rfl ⟨rfl,HG.out _ _ hn hu hf _ ((((hu3.mono σ).setCell (Α σ) _).setCell (Α σ) _).alloc _)⟩
end
section
variable {K:bV} {w:World} {p:Nat} {F:List Nat} {kd d:Int} {R:AR} {A:NS} {q:Nat}
def lM (A:NS) (hh:Int):Int:=if aR A hh then (match bQ A hh with|some _=>0|none=>172) else 171
def wV (A:NS) (hh:Int):Int:=match bQ A hh with|some m=>(m:Int)|none=>0
def wP (R:AR) (A:NS) (hh:Int):Int:=match bQ A hh with|some m=>(R.g m:Int)|none=>0
theorem vB (h:bA K w p F kd d R A q) (hh:Int) (hb:-9223372036854775808<=hh/\hh<=9223372036854775807) :
  Calls Tryz.prog 41 #[.pointer (some ⟨p,0,none⟩),.int .i64 hh] w λe w'=>e=.returned (.tuple #[.agg #[.int .i64 (wV A hh),.int .u32 (wP R A hh)],.int .i64 (lM A hh)])/\Goes F w w' (λF'=>bA K w' p F' kd d R A q):=by
 unfold wV wP lM;have hok:=h.ok.1;cases hm:bQ A hh with
 | some m=>
  have hB:aR A hh=true:=by
   obtain ⟨m1,m2,m3,m4⟩:=mg hm;rw [←m3];have:=ma hok m4;simpa using this
  rw [hB,Δ rfl];exact lL h hh hm
 | none=>
  cases hB:aR A hh with
  | true=>rw [Δ rfl];exact rf h hh hB hb hm
  | false=>
   rw [Γ σ];refine (qd h hh hB).mono λe w' ⟨h1,h2⟩=>⟨h1,F,h.ah h2,h2.mono σ,λx hx=>Α hx⟩
theorem Bi (h:bA K w p F kd d R A q) (hh:Int) (hb:-9223372036854775808<=hh/\hh<=9223372036854775807) (hE:bQ A hh=none) :
  Calls Tryz.prog 19 #[.pointer (some ⟨p,0,none⟩),.int .i64 hh] w λe w'=>e=.returned (.tuple #[.agg #[.int .i64 0,.int .u32 0],.int .i64 0,.int .i64 (lM A hh)])/\Goes F w w' (λF'=>bA K w' p F' kd d R A q):=by
 have hu0:aa [] w (w.alloc (.cells #[.int .i64 0,.int .u32 0] 46)):=(aa.refl [] w).alloc _;have k:=vB (h.ah hu0) hh hb;have eX:wV A hh=0:=by unfold wV;rw [hE]
 have eG:wP R A hh=0:=by unfold wP;rw [hE]
 have eE:lM A hh≠0:=by unfold lM;rw [hE];split<;>simp
 rw [eX,eG] at k;have Ey:=h.lt;have tX:w.heap.size∉F:=λe=>by have:=Ey _ e;omega
 have HG:=χ (λ(w1 w2:World) (hg:Goes F (w.alloc (.cells #[.int .i64 0,.int .u32 0] 46)) w1 (λF'=>bA K w1 p F' kd d R A q)) (hu2:aa [w.heap.size] w1 w2)=>hg.IV hu2 hu0 (λr hr=>by simp at hr;subst hr;exact ⟨σ,tX,Θ _⟩));generalize lM A hh=er at *;have eb:(er != 0)=true:=by simpa using eE
 clear h hE eX eG eE Ey
 go_enter Tryz.func19,Tryz.ntmps19
 go_wp2_with (first
  | ((go_at_call 41;(with_reducible refine (k).mono ?_));rintro e w1 ⟨rfl,hg⟩;(have hu1:aa F (w.alloc (.cells #[.int .i64 0,.int .u32 0] 46)) w1:=by obtain ⟨_,_,h2,_⟩:=hg;exact h2);(have q0:w1.cell? ⟨w.heap.size,0,none⟩=some (.int .i64 0):=hu1.kept γ tX);(have q1:w1.cell? ⟨w.heap.size,1,none⟩=some (.int .u32 0):=hu1.kept γ tX);(have f0:w1.frozen? ⟨w.heap.size,0,none⟩=false:=hu1.aF (v:=.int .i64 0) γ tX γ);(have f1:w1.frozen? ⟨w.heap.size,1,none⟩=false:=hu1.aF (v:=.int .u32 0) γ tX γ);(have hrl:=Ε w1 _ q0))
  | fail)
 exact bodyPost_ret (v:=.tuple #[.agg #[.int .i64 0,.int .u32 0],.int .i64 0,.int .i64 er]) (by simp [results,Tryz.results19,go_sem,q0,q1,hrl]) rfl ⟨rfl,HG.out _ _ hg ((((aa.refl _ _).setCell (Α σ) _).setCell (Α σ) _).alloc _)⟩
theorem yx (h:bA K w p F kd d R A q) (hh:Int) {m:Nat} (hM:bQ A hh=some m) :
  Calls Tryz.prog 19 #[.pointer (some ⟨p,0,none⟩),.int .i64 hh] w λe w'=>e=.returned (.tuple #[.agg #[.int .i64 (m:Int),.int .u32 (R.g m:Int)],.int .i64 (A.c m).k,.int .i64 0])/\Goes F w w' (λF'=>bA K w' p F' kd d R A q):=by
 have hu0:aa [] w (w.alloc (.cells #[.int .i64 0,.int .u32 0] 46)):=(aa.refl [] w).alloc _;have k:=lL (h.ah hu0) hh hM;have hv:R.v m=true:=by rw [h.ok.2.2.2];exact (mg hM).2.2.2
 have Ey:=h.lt;have tX:w.heap.size∉F:=λe=>by have:=Ey _ e;omega
 have HG:=χ (λ(w1 w2:World) (hg:Goes F (w.alloc (.cells #[.int .i64 0,.int .u32 0] 46)) w1 (λF'=>bA K w1 p F' kd d R A q)) (hu2:aa [w.heap.size] w1 w2)=>hg.IV hu2 hu0 (λr hr=>by simp at hr;subst hr;exact ⟨σ,tX,Θ _⟩));have ke:=λW F' (hP:bA K W p F' kd d R A q)=>uC hP m hv;clear h hv hM Ey;generalize R.g m=gm at *;generalize (A.c m).k=kk at *;generalize (A.c m).s=ss at *
 go_enter Tryz.func19,Tryz.ntmps19
 go_upto_region 5 with (first
  | ((go_at_call 41;(with_reducible refine (k).mono ?_));rintro e w1 ⟨rfl,hg⟩;(have hu1:aa F (w.alloc (.cells #[.int .i64 0,.int .u32 0] 46)) w1:=by obtain ⟨_,_,h2,_⟩:=hg;exact h2);(have q0:w1.cell? ⟨w.heap.size,0,none⟩=some (.int .i64 0):=hu1.kept γ tX);(have q1:w1.cell? ⟨w.heap.size,1,none⟩=some (.int .u32 0):=hu1.kept γ tX);(have f0:w1.frozen? ⟨w.heap.size,0,none⟩=false:=hu1.aF (v:=.int .i64 0) γ tX γ);(have f1:w1.frozen? ⟨w.heap.size,1,none⟩=false:=hu1.aF (v:=.int .u32 0) γ tX γ);(have ke2:∀W,aa [] w1 W->Calls Tryz.prog 42 #[.pointer (some ⟨p,0,none⟩),.agg #[.int .i64 (m:Int),.int .u32 (gm:Int)]] W λe w'=>e=.returned (.tuple #[.agg #[.int .i64 kk,.int .u64 ss],.int .i64 0])/\aa [] W w':=by obtain ⟨F1,hP1,_,_⟩:=hg;exact λW hW=>ke W F1 (hP1.ah hW)))
  | ((go_at_call 42;(with_reducible refine (ke2 _ β).mono ?_));rintro e w2 ⟨rfl,hu2⟩;(have x0:w2.cell? ⟨w1.heap.size,0,none⟩=some (.int .i64 (m:Int)):=hu2.was γ);(have x1:w2.cell? ⟨w1.heap.size,1,none⟩=some (.int .u32 (gm:Int)):=hu2.was γ);(have hv2:aa [] w1 w2:=aa.trans β hu2))
  | fail)
 refine dW (λW=>W.cell? ⟨w1.heap.size,0,none⟩=some (.int .i64 (m:Int))/\W.cell? ⟨w1.heap.size,1,none⟩=some (.int .u32 (gm:Int))/\W.cell? ⟨w2.heap.size,0,none⟩=some (.int .i64 kk)/\aa [] w1 W) ⟨by have:=Ε w2 _ x0;go_simp,by have:=Ε w2 _ x1;go_simp,γ,β⟩ ?_;rintro W ⟨y0,y1,y2,hW⟩;have t0:=hW.was q0;have t1:=hW.was q1;have J9:=hW.aF q0 σ f0;have JU:=hW.aF q1 σ f1;have hrl:=Ε w1 _ q0;have hz2:=hv2.size;dsimp only at hrl;have hne1:¬w2.heap.size=w.heap.size:=ω;have hne2:¬w1.heap.size=w.heap.size:=ω;have J2:¬w.heap.size=w2.heap.size:=ω;have KI:¬w.heap.size=w1.heap.size:=ω;have HW:=χ hW
 clear hW q0 q1 f0 f1 ke2 x0 x1 hv2 hu2 ke k hu1
 go_region
 all_goals
  go_wp2;exact bodyPost_ret (v:=.tuple #[.agg #[.int .i64 (m:Int),.int .u32 (gm:Int)],.int .i64 kk,.int .i64 0]) (by simp [results,Tryz.results19,go_sem,t0,t1,hne1,hne2,J2,KI]) rfl ⟨rfl,HG.out _ _ hg ((((HW.out.mono σ).setCell (Α σ) _).setCell (Α σ) _).drew)⟩
end
theorem yD {w:World} {pa:Nat} {F:List Nat} {R:AR} (h:iN w pa F R):Calls Tryz.prog 38 #[.pointer (some ⟨pa,0,none⟩)] w λe w'=>e=.returned (.int .i64 (R.sl.length:Int))/\w'=w:=by
 obtain ⟨ga,v,rfl,hM⟩:=h;have c0:=hM.c0;have hn:=hM.ok.n;clear hM;generalize R.sl.length=n at *
 go_enter Tryz.func38,Tryz.ntmps38
 go_wp2;go_ret;exact ⟨rfl,rfl⟩
theorem rq {w:World} {pa:Nat} {F:List Nat} {R:AR} (h:iN w pa F R):Calls Tryz.prog 39 #[.pointer (some ⟨pa,0,none⟩)] w λe w'=>e=.returned (.int .i64 (R.cnt:Int))/\w'=w:=by
 obtain ⟨ga,v,rfl,hM⟩:=h;have c3:=hM.c3;clear hM
 go_enter Tryz.func39,Tryz.ntmps39
 go_wp2;go_ret;exact ⟨rfl,rfl⟩
section
variable {K:bV} {w:World} {p pa pn:Nat} {Fa Fn F:List Nat} {kd d:Int} {R:AR} {A:NS} {q:Nat}
theorem nR.c0 (h:nR K w p pa pn Fa Fn kd d R A q):w.cell? ⟨p,0,none⟩=some (.int .i64 kd):=h.head.cellAt 0 ω rfl
theorem nR.c1 (h:nR K w p pa pn Fa Fn kd d R A q):w.cell? ⟨p,1,none⟩=some (.int .i64 d):=h.head.cellAt 1 ω rfl
theorem Bl (h:bA K w p F kd d R A q):Calls Tryz.prog 13 #[.pointer (some ⟨p,0,none⟩)] w λe w'=>e=.returned (.int .i64 (R.sl.length:Int))/\w'=w:=by
 obtain ⟨pa,pn,Fa,Fn,rfl,hM⟩:=h;have c2:=hM.c2;have k:=yD hM.ar;clear hM
 go_enter Tryz.func13,Tryz.ntmps13
 go_wp2_with (first|((go_at_call 38;(with_reducible refine (k).mono ?_));rintro e w1 ⟨rfl,rfl⟩)|fail)
 go_ret;exact ⟨rfl,rfl⟩
theorem xc (h:bA K w p F kd d R A q):Calls Tryz.prog 15 #[.pointer (some ⟨p,0,none⟩)] w λe w'=>e=.returned (.int .i64 (R.cnt:Int))/\w'=w:=by
 obtain ⟨pa,pn,Fa,Fn,rfl,hM⟩:=h;have c2:=hM.c2;have k:=rq hM.ar;clear hM
 go_enter Tryz.func15,Tryz.ntmps15
 go_wp2_with (first|((go_at_call 39;(with_reducible refine (k).mono ?_));rintro e w1 ⟨rfl,rfl⟩)|fail)
 go_ret;exact ⟨rfl,rfl⟩
theorem qU (h:bA K w p F kd d R A q):Calls Tryz.prog 14 #[.pointer (some ⟨p,0,none⟩)] w λe w'=>e=.returned (.agg #[.int .i64 kd,.int .i64 d])/\aa [] w w':=by
 obtain ⟨pa,pn,Fa,Fn,rfl,hM⟩:=h;have c0:=hM.c0;have c1:=hM.c1;have hpl:=Ε _ _ c0;have hpn:¬p=w.heap.size:=by dsimp only at hpl;omega
 clear hM
 go_enter Tryz.func14,Tryz.ntmps14
 go_wp2;exact bodyPost_ret (v:=.agg #[.int .i64 kd,.int .i64 d]) (by simp [results,Tryz.results14,go_sem]) rfl ⟨rfl,β⟩
theorem xu (h:bA K w p F kd d R A q) (a b:Int) (hE:aR A a=false\/aR A b=false\/a=b) :
  Calls Tryz.prog 20 #[.pointer (some ⟨p,0,none⟩),.int .i64 a,.int .i64 b] w λe w'=>e=.returned (.int .i64 (if aR A a=false\/aR A b=false then 171 else 174))/\w'=w:=by
 obtain ⟨pa,pn,Fa,Fn,rfl,hM⟩:=h;have c3:=hM.c3;obtain ⟨f,fv,hen,iP⟩:=K.has a hM.nest;obtain ⟨f',fv',hen',ER⟩:=K.has b hM.nest;unfold Enters at hen hen';have hm:=(iP w (aa.refl _ _)).1;have hc:=(iP w (aa.refl _ _)).2;have hm':=(ER w (aa.refl _ _)).1;have hc':=(ER w (aa.refl _ _)).2;clear hM iP ER;obtain ⟨rfl,rfl⟩:f=f'/\fv=fv':=by have:=hm.symm.trans hm';simpa using this
 cases ha:aR A a with
 | false=>
  rw [ha] at hc;rw [Δ (Α rfl)]
  go_enter Tryz.func20,Tryz.ntmps20
  go_wp2_with (first
   | ((with_reducible refine (hc).mono ?_);rintro e w1 ⟨rfl,rfl⟩)
   | fail)
  go_ret;exact ⟨rfl,rfl⟩
 | true=>
  rw [ha] at hc;cases hb:aR A b with
  | false=>
   rw [hb] at hc';rw [Δ (Β rfl)]
   go_enter Tryz.func20,Tryz.ntmps20
   go_wp2_with (first
    | ((with_reducible refine (hc).mono ?_);rintro e w1 ⟨rfl,rfl⟩)
    | ((with_reducible refine (hc').mono ?_);rintro e w1 ⟨rfl,rfl⟩)
    | fail)
   go_ret;exact ⟨rfl,rfl⟩
  | true=>
   rw [hb] at hc';rw [Γ σ];obtain rfl:a=b:=by
    rcases hE with e|e|e
    ·rw [ha] at e;cases e
    ·rw [hb] at e;cases e
    ·exact e
   have haa:(a == a)=true:=σ
   go_enter Tryz.func20,Tryz.ntmps20
   go_wp2_with (first
    | ((with_reducible refine (hc).mono ?_);rintro e w1 ⟨rfl,rfl⟩)
    | ((with_reducible refine (hc').mono ?_);rintro e w1 ⟨rfl,rfl⟩)
    | fail)
   go_ret;exact ⟨rfl,rfl⟩
end
def Gf (K:bV):Prop:=∀ (p c:Nat) (W:World),W.cell? ⟨p,0,none⟩=some (.pointer (some ⟨c,0,none⟩))->(method 409 K.ty (.pointer (some ⟨p,0,none⟩)) "Steps").run Tryz.prog W=.ok (130,.pointer (some ⟨c,0,none⟩)) W
def EX (K:bV) (w:World) (p n:Nat):Prop:=∃pn,w.cell? ⟨p,3,none⟩=some (.iface K.ty (.pointer (some ⟨pn,0,none⟩)))/\lX w pn n
theorem lX.ah {w w':World} {p n:Nat} (h:lX w p n) (hu:aa [] w w'):lX w' p n:=by
 obtain ⟨c,F1,h0,hC⟩:=h;exact ⟨c,F1,hu.was h0,hC.ah hu⟩
theorem EX.ah {K:bV} {w w':World} {p n:Nat} (h:EX K w p n) (hu:aa [] w w'):EX K w' p n:=by
 obtain ⟨pn,h0,hC⟩:=h;exact ⟨pn,hu.was h0,hC.ah hu⟩
theorem sM {K:bV} (hV:Gf K) {w:World} {p n:Nat} (h:EX K w p n):Calls Tryz.prog 16 #[.pointer (some ⟨p,0,none⟩)] w λe w'=>e=.returned (.int .i64 0)/\w'=w:=by
 obtain ⟨pn,c3,c,F1,h0,hC⟩:=h;have hm:=hV pn c w h0;have hen:Enters 130:=λ_ _=>by kernel_rfl
 unfold Enters at hen;have hc:=ve hC;clear hC hV;generalize K.ty=ty at *
 go_enter Tryz.func16,Tryz.ntmps16
 go_wp2_with (first
  | ((with_reducible refine (hc).mono ?_);rintro e w1 ⟨rfl,rfl⟩)
  | fail)
 go_ret;exact ⟨rfl,rfl⟩
theorem ug {K:bV} {kd d:Int} (n m:Nat) (w:World) (hn:n<=65536) (hm:1<=m/\m<=4294967295) (hc:jE kd d=0) (ko:fP K kd d n) :
  Calls Tryz.prog 11 #[.agg #[.int .i64 kd,.int .i64 d],.int .i64 (n:Int),.int .u32 (m:Int)] w λe w'=>∃p F,e=.returned (.tuple #[.pointer (some ⟨p,0,none⟩),.int .i64 0])/\bA K w' p F kd d (AR.new n m) (NS.new n) 0/\EX K w' p n/\aa [] w w'/\∀x,x∈F->w.heap.size<=x:=by
 have kc:=λW=>jq kd d W;rw [hc] at kc;have ka:=λW=>oP n m W hn hm;unfold fP at ko;have hcs:(NS.new n).cs.length=n:=by simp [NS.new]
 have hal:(AR.new n m).sl.length=n:=by simp [AR.new]
 have HL:=χ (ψ hcs hal);clear hcs hal hc
 go_enter Tryz.func11,Tryz.ntmps11
 go_wp2_with (first
  | ((go_at_call 33;(with_reducible refine (kc _).mono ?_));rintro e w1 ⟨rfl,hu1⟩;(have q0:w1.cell? ⟨w.heap.size,0,none⟩=some (.int .i64 kd):=hu1.was γ);(have q1:w1.cell? ⟨w.heap.size,1,none⟩=some (.int .i64 d):=hu1.was γ);(have hw1:aa [] w w1:=aa.trans β hu1))
  | ((go_at_call 34;(with_reducible refine (ka _).mono ?_));rintro e w2 ⟨pa,Fa,rfl,hA,hu2,hfa⟩;(have q2:=hu2.was q0);(have q3:=hu2.was q1))
  | ((go_at_call 35;(with_reducible refine (ko _).mono ?_));rintro e w3 ⟨pn,Fn,rfl,hN,hZ,hu3,hfn⟩;(have q4:=hu3.was q2);(have q5:=hu3.was q3))
  | fail)
 go_ret2;have hh:=aY w3 [.int .i64 kd,.int .i64 d,.pointer (some ⟨pa,0,none⟩),.iface K.ty (.pointer (some ⟨pn,0,none⟩)),.int .u64 0] 89;have hb:aa [] w3 (w3.alloc (.cells #[.int .i64 kd,.int .i64 d,.pointer (some ⟨pa,0,none⟩),.iface K.ty (.pointer (some ⟨pn,0,none⟩)),.int .u64 0] 89)):=(aa.refl _ _).alloc _;have GK:=hA.lt;have JC:=K.lt hN;have s3:=hu3.size;have s1:=hw1.size;have s2:=hu2.size
 have hM:nR K (w3.alloc (.cells #[.int .i64 kd,.int .i64 d,.pointer (some ⟨pa,0,none⟩),.iface K.ty (.pointer (some ⟨pn,0,none⟩)),.int .u64 0] 89)) w3.heap.size pa pn Fa Fn kd d (AR.new n m) (NS.new n) 0:=⟨hh.ext (λj hj=>by unfold FE;rfl),(hA.upd hu3 σ).upd hb σ,K.upd hN hb σ,λe=>by have:=GK _ e;omega,λe=>by have:=JC _ e;omega,λx h1 h2=>by have:=GK x h1;have:=hfn x h2;omega,by rw [HL.out.1,HL.out.2],λx=>by rw [Ee,y5]⟩;refine ⟨w3.heap.size,w3.heap.size::(Fa++Fn),rfl,⟨pa,pn,Fa,Fn,rfl,hM⟩,⟨pn,hM.c3,hZ.ah hb⟩,((hw1.trans hu2).trans hu3).trans hb,λx hx=>?_⟩;simp only [ρ,τ] at hx
 rcases hx with rfl|hx|hx
 ·omega
 ·have:=hfa x hx;omega
 ·have:=hfn x hx;omega
end Go.Proofs.YtnpdakpagnpanaaGreat
