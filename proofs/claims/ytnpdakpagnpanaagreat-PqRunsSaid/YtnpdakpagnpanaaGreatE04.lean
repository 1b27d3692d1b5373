/-
  Lemmas.
-/
import Derived.Deep.DeepCutAuto
import Derived.Test.YtnpdakpagnpanaaGreatE03
set_option linter.all false
set_option maxHeartbeats 8000000
set_option maxRecDepth 10000
namespace Go.Proofs.YtnpdakpagnpanaaGreat
open Tryz
open Go Go.RowKit
structure AR where
 sl:List (Nat×Bool)
 wait:List Nat
 next:Nat
 most:Nat
def AR.g(R:AR)(x:Nat):Nat:=(R.sl.getD x (0,false)).1
def AR.v(R:AR)(x:Nat):Bool:=(R.sl.getD x (0,false)).2
def GV(l:List (Nat×Bool)):Nat:=(l.filter (λp=>p.2)).length
def AR.cnt(R:AR):Nat:=GV R.sl
structure AR.Ok(R:AR):Prop where
 n:R.sl.length<=65536
 nx:R.next<=R.sl.length
 WE:1<=R.most/\R.most<=4294967295
 wt:∀x,x∈R.wait->x<R.next/\R.v x=false/\R.g x<R.most
 nd:R.wait.Nodup
 fresh:∀x,R.next<=x->R.g x=0/\R.v x=false
 lv:∀x,R.v x=true->1<=R.g x
 gm:∀x,R.g x<=R.most
def AR.new(n most:Nat):AR:=⟨List.replicate n (0,false),[],0,most⟩
def AR.put(R:AR)(x:Nat)(p:Nat×Bool):AR:={ R with sl:=R.sl.set x p }
def qm(R:AR):Option (Nat×AR):=
 match R.wait.getLast? with
 |some x=>some (x,{ R with wait:=R.wait.dropLast })
 |none=>if R.next=R.sl.length then none else some (R.next,{ R with next:=R.next+1 })
def jF(R:AR):Option (Nat×AR):=(qm R).map λp=>(p.1,p.2.put p.1 (R.g p.1+1,true))
def gL(R:AR)(x g:Int):Bool:=decide (0<=x) && decide (x<R.sl.length) && decide ((R.g x.toNat:Int)=g) && R.v x.toNat
def iB(R:AR)(x:Nat):AR:={ R.put x (R.g x,false) with wait:=if R.g x<R.most then R.wait++[x] else R.wait }
section
variable{R:AR}
def AR.Aj(x:Nat)(p:Nat×Bool)(y:Nat):(R.put x p).g y=if y=x/\x<R.sl.length then p.1 else R.g y:=by
 unfold AR.put AR.g
 grind
def AR.Dh(x:Nat)(p:Nat×Bool)(y:Nat):(R.put x p).v y=if y=x/\x<R.sl.length then p.2 else R.v y:=by
 unfold AR.put AR.v
 grind
def AR.far{x:Nat}(a:R.sl.length<=x):R.g x=0/\R.v x=false:=by
 unfold AR.g AR.v
 grind
def AR.kV(x:Nat)(p:Nat×Bool):(R.put x p).sl.length=R.sl.length:=by unfold AR.put;simp
def AR.Dq{x:Nat}(h:R.v x=true):x<R.sl.length:=by
 rcases ϕ x R.sl.length with a|a
 .exact a
 .rw[(AR.far a).2] at h;cases h
def wu(q:Nat×Bool)(r:List (Nat×Bool)):GV (q::r)=GV r+if q.2 then 1 else 0:=by
 unfold GV
 grind
def KS:∀(l:List (Nat×Bool)) (x:Nat) (p:Nat×Bool),x<l.length->GV (l.set x p)+(if(l.getD x (0,false)).2 then 1 else 0)=GV l+(if p.2 then 1 else 0)
 | [],x,p,h=>by simp at h
 |q::r,0,p,h=>by
  rw[List.set_cons_zero,wu,wu]
  show _+_+(if q.2 then 1 else 0)=_
  omega
 |q::r,x+1,p,h=>by
  have ih:=KS r x p (by simpa using h);rw[List.set_cons_succ,wu,wu,List.getD_cons_succ];omega
def NZ(l:List (Nat×Bool)):GV l<=l.length:=List.length_filter_le _ _
def AR.AZ(x:Nat)(p:Nat×Bool)(a:x<R.sl.length):(R.put x p).cnt+(if R.v x then 1 else 0)=R.cnt+(if p.2 then 1 else 0):=KS R.sl x p a
def AR.NT(h:R.Ok):R.wait.length<=R.next:=by
 have a:∀(n:Nat) (l:List Nat),l.Nodup->(∀x,x∈l->x<n)->l.length<=n:=by
  intro n
  induction n with
  |zero=>
   intro l _ h;cases l with
   |nil=>simp
   |cons x r=>have:=h x σ;omega
  |succ n d=>
   intro l c h
   have e:=d (l.erase n) (c.erase _) (λx b=>by
    grind)
   grind
 exact a _ _ h.nd (λx b=>(h.wt x b).1)
def AR.Nw{n a:Nat}(c:n<=65536)(d:1<=a/\a<=4294967295):(AR.new n a).Ok:=by
 have e:∀x,(AR.new n a).g x=0/\(AR.new n a).v x=false:=λx=>by
  unfold AR.new AR.g AR.v
  grind
 refine⟨by simp[AR.new];exact c,by simp[AR.new],d,λx b=>by simp[AR.new] at b,by simp[AR.new],λx _=>e x,λx b=>?_,λx=>?_⟩
 .grind
 .grind
def AR.Pk(n a:Nat):(AR.new n a).cnt=0:=by
 unfold AR.cnt GV AR.new;simp
def zM{x:Nat}{R':AR}(h:R.Ok)(hp:qm R=some (x,R')):x<R.sl.length/\R.v x=false/\R.g x<R.most/\R'.sl=R.sl/\R'.most=R.most/\R'.next<=R.sl.length/\x<R'.next/\R.next<=R'.next/\
  (∀y,y∈R'.wait->y∈R.wait/\y≠x)/\R'.wait.Nodup:=by
 unfold qm at hp;cases b:R.wait.getLast? with
 |some y=>
  rw[b] at hp;simp only[ϖ,Prod.mk.injEq] at hp;obtain⟨rfl,rfl⟩:=hp;have m:y∈R.wait:=List.mem_of_getLast? b;obtain⟨d,c,k⟩:=h.wt y m;have g:=h.nd;have a:R.wait=R.wait.dropLast++[y]:=by
   obtain⟨l,f⟩:=List.getLast?_eq_some_iff.1 b;rw[f];simp
  rw[a,θ] at g;refine⟨Ψ d h.nx,c,k,rfl,rfl,h.nx,d,Θ _,λz i=>⟨List.dropLast_subset _ i,λe=>?_⟩,g.1⟩;exact g.2.2 z i y σ e
 |none=>
  rw[b] at hp;have n:R.wait=[]:=List.getLast?_eq_none_iff.1 b;dsimp only at hp
  split at hp
  .cases hp
  .rename_i o
   simp only[ϖ,Prod.mk.injEq] at hp;obtain⟨rfl,rfl⟩:=hp;have d:=h.nx;have c:=h.fresh R.next (Θ _);refine⟨ω,c.2,by rw[c.1];exact h.WE.1,rfl,rfl,by show R.next+1<=_;omega,by show R.next<R.next+1;omega,by show R.next<=R.next+1;omega,λy j=>?_,h.nd⟩;rw[show({ R with next:=R.next+1 }:AR).wait=R.wait from rfl,n] at j;cases j
def qw{x:Nat}{R':AR}(h:R.Ok)(hp:jF R=some (x,R')):R'.Ok/\x<R.sl.length/\R.v x=false/\R.g x<R.most/\R'.sl=R.sl.set x (R.g x+1,true)/\R'.most=R.most/\R'.cnt=R.cnt+1:=by
 unfold jF at hp;cases k:qm R with
 |none=>rw[k] at hp;cases hp
 |some q=>
  obtain⟨y,a⟩:=q;rw[k] at hp;simp only[ϛ,ϖ,Prod.mk.injEq] at hp;obtain⟨rfl,rfl⟩:=hp;obtain⟨l,m,o,c,d,p,C,r,s,i⟩:=zM h k;have f:∀z,a.g z=R.g z:=λz=>by unfold AR.g;rw[c]
  have g:∀z,a.v z=R.v z:=λz=>by unfold AR.v;rw[c]
  have A:y<a.sl.length:=by rw[c];exact l
  refine⟨⟨by rw[AR.kV,c];exact h.n,by rw[AR.kV,c];exact p,by show 1<=a.most/\a.most<=4294967295;rw[d];exact h.WE,λz b=>?_,i,λz b=>?_,λz b=>?_,λz=>?_⟩,l,m,o,by show a.sl.set _ _=_;rw[c],d,?_⟩
  .obtain⟨t,n⟩:=s z b;obtain⟨u,v,w⟩:=h.wt z t;rw[AR.Dh,AR.Aj,Γ (λe=>n e.1),Γ (λe=>n e.1),g,f];refine⟨Ψ u r,v,?_⟩
   show R.g z<a.most
   rw[d];exact w
  .have B:a.next<=z:=b;rw[AR.Dh,AR.Aj,Γ ω,Γ ω,g,f];exact h.fresh z ω
  .rw[AR.Dh] at b;rw[AR.Aj]
   by_cases e:z=y/\y<a.sl.length
   .grind
   .rw[Γ e] at b ⊢;rw[g] at b;rw[f];exact h.lv z b
  .rw[AR.Aj]
   show _<=a.most
   rw[d]
   split
   .grind
   .rw[f];exact h.gm z
  .have j:=AR.AZ (R:=a) y (R.g y+1,true) A;rw[g,m] at j;simp at j;rw[j];unfold AR.cnt;rw[c]
def Gn{x:Nat}(h:R.Ok)(i:R.v x=true):(iB R x).Ok/\(iB R x).cnt+1=R.cnt:=by
 have p:=AR.Dq i;have g:∀z,(iB R x).g z=R.g z:=λz=>by
  show(R.put x (R.g x,false)).g z=_
  rw[AR.Aj]
  grind
 have j:∀z,(iB R x).v z=if z=x then false else R.v z:=λz=>by
  show(R.put x (R.g x,false)).v z=_
  rw[AR.Dh]
  grind
 have q:x<R.next:=by
  rcases ϕ x R.next with l|l
  .exact l
  .rw[(h.fresh x l).2] at i;cases i
 refine⟨⟨by show(R.put x _).sl.length<=_;rw[AR.kV];exact h.n,by show R.next<=(R.put x _).sl.length;rw[AR.kV];exact h.nx,h.WE,λz d=>?_,?_,λz d=>?_,λz d=>?_,λz=>by rw[g];exact h.gm z⟩,?_⟩
 .have c:z∈(if R.g x<R.most then R.wait++[x] else R.wait):=d;rw[j,g];have n:z∈R.wait->z<R.next/\(if z=x then false else R.v z)=false/\R.g z<R.most:=λf=>by
   obtain⟨s,t,u⟩:=h.wt z f
   grind
  split at c
  .rename_i m
   rcases τ.1 c with f|f
   .exact n f
   .simp at f;subst f;exact⟨q,by rw[Δ rfl],m⟩
  .exact n c
 .show(if R.g x<R.most then R.wait++[x] else R.wait).Nodup
  split
  .rw[θ];refine⟨h.nd,σ,λa r b o e=>?_⟩;simp at o;subst o;subst e;have:=(h.wt _ r).2.1
   grind
  .exact h.nd
 .rw[j,g];have c:R.next<=z:=d;have:=h.fresh z c
  grind
 .rw[j] at d
  split at d
  .cases d
  .rw[g];exact h.lv z d
 .have k:=AR.AZ (R:=R) x (R.g x,false) p;rw[i] at k;simp at k;exact k
end
def aU{c:Code}{K:Exit->Act->World->Prop}{a:Act}{W:World}(R:World->Prop)(h:R W)(k:∀b,R b->Code.wp prog c K a b):Code.wp prog c K a W:=k W h
def Rl(R:AR)(j:Nat):Value:=if j % 2=0 then .int .u32 (R.g (j / 2):Int) else .bool (R.v (j / 2))
def arC(ga:Nat)(v:Value)(R:AR)(j:Nat):Value:=[Value.slice (some ga) R.sl.length R.sl.length,v,.int .i64 (R.next:Int),.int .i64 (R.cnt:Int),.int .u32 (R.most:Int)].getD j undef
structure vN(w:World)(pa ga:Nat)(v:Value)(R:AR):Prop where
 head:aQ w pa 120 5 (arC ga v R)
 row:aQ w ga 152 (R.sl.length*2) (Rl R)
 wait:w.ownsRow 0 3 1 v R.wait.length (aZ (cz R.wait))
 ne:pa≠ga
 nw:∀k,v.ownBlock=some k->k≠pa/\k≠ga
 ok:R.Ok
def qi(w:World)(pa:Nat)(F:List Nat)(R:AR):Prop:=∃ga v,F=pa::ga::v.ownBlock.toList/\vN w pa ga v R
section
variable{w:World}{pa ga:Nat}{v:Value}{R:AR}{F:List Nat}
def vN.c0(h:vN w pa ga v R):w.cell? (pa:Nat)=some (.slice (some (ga:Nat)) R.sl.length R.sl.length):=h.head.cellAt 0 ω rfl
def vN.c1(h:vN w pa ga v R):w.cell? ⟨pa,1,none⟩=some v:=h.head.cellAt 1 ω rfl
def vN.c2(h:vN w pa ga v R):w.cell? ⟨pa,2,none⟩=some ((R.next:Int):V):=h.head.cellAt 2 ω rfl
def vN.c3(h:vN w pa ga v R):w.cell? ⟨pa,3,none⟩=some ((R.cnt:Int):V):=h.head.cellAt 3 ω rfl
def vN.c4(h:vN w pa ga v R):w.cell? ⟨pa,4,none⟩=some (.int .u32 (R.most:Int)):=h.head.cellAt 4 ω rfl
def vN.s0(h:vN w pa ga v R){x:Nat}(a:x<R.sl.length):w.cell? ⟨ga,x*2,none⟩=some (.int .u32 (R.g x:Int)):=h.row.cellAt (x*2) ω (by unfold Rl;rw[Δ ω,show x*2 / 2=x by omega])
def vN.s1(h:vN w pa ga v R){x:Nat}(a:x<R.sl.length):w.cell? ⟨ga,x*2+1,none⟩=some (.bool (R.v x)):=h.row.cellAt (x*2+1) ω (by unfold Rl;rw[Γ ω,show(x*2+1) / 2=x by omega])
def Ql(l:List Nat):(cz l).length=l.length:=by unfold cz;simp
def vN.upd{w':World}{S:List Nat}(h:vN w pa ga v R)(a:ae S w w')(b:∀x,x∈S->x∉pa::ga::v.ownBlock.toList):vN w' pa ga v R:=
 ⟨h.head.upd a (λe=>b _ e σ),h.row.upd a (λe=>b _ e σ),au h.wait a (λk c e=>b _ e (by simp[c])),h.ne,h.nw,h.ok⟩
def qi.upd{w':World}{S:List Nat}(h:qi w pa F R)(a:ae S w w')(b:∀x,x∈S->x∉F):qi w' pa F R:=by
 obtain⟨ga,v,rfl,h⟩:=h;exact⟨ga,v,rfl,h.upd a b⟩
def qi.lt(h:qi w pa F R):∀x,x∈F->x<w.heap.size:=by
 obtain⟨ga,v,rfl,h⟩:=h;intro x a;simp at a;rcases a with rfl|rfl|a
 .exact h.head.lt
 .exact h.row.lt
 .exact(h.wait.lt x a).2
def qi.ok(h:qi w pa F R):R.Ok:=by obtain⟨ga,v,rfl,h⟩:=h;exact h.ok
def Tv:(prog.info? 152).map (λi=>(i.zero,i.size,i.bytes))=some (some (.agg #[.int .u32 0,false]),2,8):=by kernel_rfl
def Qy(n m:Nat)(w:World)(h:n<=65536)(p:1<=m/\m<=4294967295):
  Calls prog 34 #[(n:Int),.int .u32 (m:Int)] w λe w'=>∃pa F,e=.returned (.tuple #[(pa:Nat),(0:Int)])/\qi w' pa F (AR.new n m)/\ae [] w w'/\∀x,x∈F->w.heap.size<=x:=by
 have d:((m:Int) == 0)=false:=ζ
 go_enter func34,ntmps34
 go_wp2_with (first
  | (at_make;refine wpList_make_row rfl _ 118 rfl 152 (.agg #[.int .u32 0,false]) 2 8 underlying118 Tv n rfl ω μ ?_;intro b a c))
 go_ret2;have f:=eO b [.slice (some w.heap.size) n n,.slice none 0 0,.int .i64 0,.int .i64 0,.int .u32 (m:Int)] 120;have q:=a.lt;have e:∀x,(AR.new n m).g x=0/\(AR.new n m).v x=false:=λx=>by
  unfold AR.new AR.g AR.v
  grind
 refine⟨b.heap.size,b.heap.size::w.heap.size::[],rfl,⟨w.heap.size,.slice none 0 0,rfl,⟨?_,?_,⟨by simp[AR.new,cz,aZ],Α ⟨rfl,by simp[AR.new]⟩⟩,ω,λk i=>(by cases i),AR.Nw h p⟩⟩,c.trans ((ae.refl _ _).alloc _),λx l=>by simp at l;omega⟩
 .refine f.ext (λj o=>?_);unfold arC;rw[AR.Pk];simp[AR.new]
 .have g:(AR.new n m).sl.length=n:=by simp[AR.new]
  rw[g];refine(a.alloc _).ext (λj o=>?_);unfold Rl;rw[(e _).1,(e _).2]
  show(madeCells #[Value.int .u32 0,false] (n*2)).toList.getD j undef=_
  rw[φ,ε (by simp[size_madeCells];omega)];simp only[Option.getD_some,madeCells,Array.getElem_toList,Array.getElem_map,Array.getElem_range]
  grind
def pI(h:qi w pa F R)(x g:Int)(u:0<=g/\g<=4294967295):
  Calls prog 73 #[(pa:Nat),.agg #[x,.int .u32 g]] w λe w'=>e=.returned (.bool (gL R x g))/\ae [] w w':=by
 obtain⟨ga,v,rfl,h⟩:=h;have b:=h.c0;unfold gL
 by_cases j:x≥0
 .by_cases m:x<(R.sl.length:Int)
  .have c:=h.s0 (x:=x.toNat) ω;have f:=h.s1 (x:=x.toNat) ω;rw[show((x.toNat * 2:Nat))=x.toNat * 2 from rfl] at c;rw[Ν (show 0<=x from j),Ν m];generalize R.g x.toNat=r at *;generalize R.v x.toNat=o at *;generalize R.sl.length=n at *;clear h
   go_enter func73,ntmps73
   (go_upto_region 1 with(fail);refine aU (λW=>W.cell? w.heap.size=some (x:V)/\W.cell? ⟨w.heap.size,1,none⟩=some (.int .u32 g)/\ae [] w W) ⟨σ,σ,β⟩ ?_;rintro W ⟨k,l,a⟩)
   have p:=a.was b;have s:=a.was c;have t:=a.was f;have d:=χ a;clear a b c f
   by_cases e:(r:Int)=g
   .subst e;cases o
    all_goals
     go_quiet (fail)
     go_wp2;go_ret;exact⟨bF σ,by have:=d.out;exact β⟩
   .cases o
    all_goals
     go_quiet (fail)
     go_wp2;go_ret;exact⟨bF (by simp[e]),by have:=d.out;exact β⟩
  .have i:decide (x<(R.sl.length:Int))=false:=by simpa using m
   rw[i];generalize R.sl.length=n at *;clear h
   go_enter func73,ntmps73
   (go_upto_region 1 with(fail);refine aU (λW=>W.cell? w.heap.size=some (x:V)/\W.cell? ⟨w.heap.size,1,none⟩=some (.int .u32 g)/\ae [] w W) ⟨σ,σ,β⟩ ?_;rintro W ⟨k,l,a⟩)
   have p:=a.was b;have d:=χ a;clear a b
   go_quiet (fail)
   go_wp2;go_ret;exact⟨bF σ,by have:=d.out;exact β⟩
 .have q:decide (x≥0)=false:=by simpa using j
  rw[Ξ (show ¬0<=x from j)];clear h
  go_enter func73,ntmps73
  (go_upto_region 1 with(fail);refine aU (λW=>W.cell? w.heap.size=some (x:V)/\W.cell? ⟨w.heap.size,1,none⟩=some (.int .u32 g)/\ae [] w W) ⟨σ,σ,β⟩ ?_;rintro W ⟨k,l,a⟩)
  have d:=χ a;clear a
  go_quiet (fail)
  go_wp2;go_ret;exact⟨bF σ,by have:=d.out;exact β⟩
end
def Kz{w:World}{base g n cap k:Nat}{e:TypeId}{xs:List Value}(h:w.ownsRow base e 1 (.slice (some g) n cap) n xs)(b:k<=n):w.ownsRow base e 1 (.slice (some g) k cap) k (xs.take k):=by
 rcases h.2 with⟨h1,_⟩|⟨g',cap',cur,h1,hb,hg,hn,hc,hs,ht⟩
 .cases h1
 .cases h1;have a:=h.1;exact⟨by grind,Β ⟨g,cap,cur,rfl,hb,hg,ω,hc,hs,by grind⟩⟩
def Yv{R R':AR}{x:Nat}(h:R.Ok)(hp:qm R=some (x,R')):R'.Ok:=by
 obtain⟨j,k,l,b,e,m,n,o,g,c⟩:=zM h hp;have d:∀z,R'.g z=R.g z:=λz=>by unfold AR.g;rw[b]
 have f:∀z,R'.v z=R.v z:=λz=>by unfold AR.v;rw[b]
 refine⟨by rw[b];exact h.n,by grind,by rw[e];exact h.WE,λz a=>?_,c,λz a=>?_,λz a=>by rw[f] at a;rw[d];exact h.lv z a,λz=>by rw[d,e];exact h.gm z⟩
 .obtain⟨i,_⟩:=g z a;obtain⟨p,q,r⟩:=h.wt z i
  grind
 .rw[f,d];exact h.fresh z ω
section
variable{w:World}{pa ga:Nat}{v:Value}{R:AR}{F:List Nat}
def Xv(h:qi w pa F R)(x:Nat)(a:R.v x=true):
  Calls prog 72 #[(pa:Nat),(x:Int)] w λe w'=>e=.returned (.tuple #[.agg #[(x:Int),.int .u32 (R.g x:Int)],true])/\ae [] w w':=by
 obtain⟨ga,v,rfl,h⟩:=h;have b:=AR.Dq a;have c:=h.c0;have d:=h.s0 b;have f:=h.s1 b;rw[a] at f;have j:(x:Int)<(R.sl.length:Int):=ω;have g:¬R.sl.length<=x:=ω;generalize R.g x=i at *;generalize R.sl.length=n at *;have k:=Ε w _ c;have l:=Ε w _ d;clear h a
 go_enter func72,ntmps72
 go_wp2;exact bodyPost_ret (v:=.tuple #[.agg #[(x:Int),.int .u32 (i:Int)],true]) (by simp[results,results72,go_sem]) rfl ⟨rfl,β⟩
def Jh(h:vN w pa ga v R)(hp:qm R=none):
  Calls prog 71 #[(pa:Nat)] w λe w'=>e=.returned (.tuple #[(0:Int),false])/\ae [] w w':=by
 have b:R.wait=[]/\R.next=R.sl.length:=by
  unfold qm at hp;cases f:R.wait.getLast? with
  |some y=>rw[f] at hp;cases hp
  |none=>
   rw[f] at hp;dsimp only at hp
   split at hp
   .rename_i e;exact⟨List.getLast?_eq_none_iff.1 f,e⟩
   .cases hp
 have k:=h.c0;have g:=h.c1;have i:=h.c2;have d:=h.wait;rw[b.1] at d;obtain⟨a,c,rfl,j⟩:=bz d;rw[b.2] at i;generalize R.sl.length=n at *;simp only[List.length_nil] at g;clear h d b hp
 go_enter func71,ntmps71
 go_wp2
 go_quiet (fail)
 go_wp2;go_ret2;exact⟨rfl,β⟩
def RL{l:List Nat}{j x:Nat}(h:l[j]?=some x):(cz l).getD j 0=(x:Int):=by unfold cz;simp[φ,h]
def Cm(l:List Int)(k:Nat):(aZ l).take k=aZ (l.take k):=by unfold aZ;rw[List.map_take]
def Bi(l:List Nat)(k:Nat):(cz l).take k=cz (l.take k):=by unfold cz;rw[List.map_take]
def vN.setv(h:vN w pa ga v R){R':AR}{v':Value}(g:R'.Ok)(a:R'.sl=R.sl)(i:R'.next=R.next)(l:R'.most=R.most)(m:w.ownsRow 0 3 1 v' R'.wait.length (aZ (cz R'.wait)))(c:∀k,v'.ownBlock=some k->k≠pa/\k≠ga):
  vN (w.setCell ⟨pa,1,none⟩ v') pa ga v' R':=by
 have b:ae [pa] w (w.setCell ⟨pa,1,none⟩ v'):=(ae.refl _ _).setCell (Α σ) _;refine⟨(h.head.set 1 v').ext (λj d=>?_),?_,au m b (λk f e=>(c k f).1 (by simpa using e)),h.ne,c,g⟩
 .rcases(ω:j=0\/j=1\/j=2\/j=3\/j=4) with rfl|rfl|rfl|rfl|rfl<;>simp[arC,AR.cnt,a,i,l]
 .rw[a];exact(h.row.upd b (by simp;exact λe=>h.ne e.symm)).ext (λj d=>by unfold Rl AR.g AR.v;rw[a])
def vN.setn(h:vN w pa ga v R){R':AR}(f:R'.Ok)(a:R'.sl=R.sl)(g:R'.wait=R.wait)(i:R'.most=R.most):vN (w.setCell ⟨pa,2,none⟩ (.int .i64 (R'.next:Int))) pa ga v R':=by
 have b:ae [pa] w (w.setCell ⟨pa,2,none⟩ (.int .i64 (R'.next:Int))):=(ae.refl _ _).setCell (Α σ) _;refine⟨(h.head.set 2 _).ext (λj c=>?_),?_,by rw[g];exact au h.wait b (λk d e=>(h.nw k d).1 (by simpa using e)),h.ne,h.nw,f⟩
 .rcases(ω:j=0\/j=1\/j=2\/j=3\/j=4) with rfl|rfl|rfl|rfl|rfl<;>simp[arC,AR.cnt,a,i]
 .rw[a];exact(h.row.upd b (by simp;exact λe=>h.ne e.symm)).ext (λj c=>by unfold Rl AR.g AR.v;rw[a])
def Ja(h:vN w pa ga v R){x:Nat}{R':AR}(hp:qm R=some (x,R')):
  Calls prog 71 #[(pa:Nat)] w λe w'=>e=.returned (.tuple #[(x:Int),true])/\∃v',v'.ownBlock=v.ownBlock/\vN w' pa ga v' R'/\ae [pa] w w':=by
 have d:=Yv h.ok hp;have I:=AR.NT h.ok;have Q:=h.ok.n;have J:=h.ok.nx;unfold qm at hp;cases f:R.wait.getLast? with
 |some y=>
  rw[f] at hp;simp only[ϖ,Prod.mk.injEq] at hp;obtain⟨rfl,rfl⟩:=hp;have g:R.wait≠[]:=λe=>by rw[e] at f;cases f
  have j:0<R.wait.length:=List.length_pos_iff.2 g;have B:=h.c1;have S:=h.head.free 1;obtain⟨r,cap,rfl,_,F,G,H,b,_⟩:=fU h.wait j;have l:R.wait[R.wait.length-1]?=some y:=by rw[←List.getLast?_eq_getElem?];exact f
  have K:=b (R.wait.length-1) (.int .i64 (y:Int)) (by rw[mM (by rw[Ql];omega),RL l]);have o:R.wait.dropLast=R.wait.take (R.wait.length-1):=List.dropLast_eq_take;have i:=Kz h.wait (k:=R.wait.length-1) ω;rw[Cm,Bi,←o] at i;have p:R.wait.dropLast.length=R.wait.length-1:=σ;have q:=χ (show vN (w.setCell ⟨pa,1,none⟩ (.slice (some (r:Nat)) (R.wait.length-1) cap)) pa ga (.slice (some (r:Nat)) (R.wait.length-1) cap) { R with wait:=R.wait.dropLast } from h.setv d rfl rfl rfl (by show w.ownsRow 0 _ 1 _ R.wait.dropLast.length _;rw[p];exact i) h.nw)
  clear h d b l o i p f g;generalize A:R.wait.length=E at *;obtain⟨m,rfl⟩:∃m,E=m+1:=⟨E-1,ω⟩;simp only[Nat.add_sub_cancel] at K q;clear A;have s:((m+1:Nat):Int)-1=(m:Int):=ω;have t:IntKind.i64.wrap (((m+1:Nat):Int)-1)=(m:Int):=by rw[s];exact Μ _ ω
  have u:(m:Int)<=(cap:Int):=ω
  go_enter func71,ntmps71
  go_wp2;go_ret2;exact⟨rfl,.slice (some (r:Nat)) m cap,rfl,q.out,β⟩
 |none=>
  rw[f] at hp;have C:R.wait=[]:=List.getLast?_eq_none_iff.1 f;dsimp only at hp
  split at hp
  .cases hp
  .rename_i g
   simp only[ϖ,Prod.mk.injEq] at hp;obtain⟨rfl,rfl⟩:=hp;have T:=h.c0;have B:=h.c1;have U:=h.c2;have X:=h.head.free 2;have z:=h.wait;rw[C] at z;obtain⟨a,c,rfl,P⟩:=bz z;simp only[List.length_nil] at B;have L:((R.next:Int) == (R.sl.length:Int))=false:=ζ;have t:IntKind.i64.wrap ((R.next:Int)+1)=(R.next:Int)+1:=Μ _ ω;have D:IntKind.i64.wrap ((R.next:Int)+1-1)=(R.next:Int):=by rw[show(R.next:Int)+1-1=(R.next:Int) by omega];exact Μ _ ω
   have q:=χ (λW (N:ae [] w W)=>(h.upd N σ).setn (R':={ R with next:=R.next+1 }) d rfl rfl rfl);have M:=χ (show((({ R with next:=R.next+1 }:AR).next:Nat):Int)=(R.next:Int)+1 from by show((R.next+1:Nat):Int)=_;omega);clear h d z C f;generalize O:({ R with next:=R.next+1 }:AR)=Y at *;clear O;generalize R.next=nx at *;generalize R.sl.length=n at *
   go_enter func71,ntmps71
   go_wp2
   go_quiet (fail)
   go_wp2;go_ret2;refine⟨rfl,_,rfl,?_,β⟩;have:=q.out _ (((ae.refl [] w).drewN nq));rw[M.out] at this;exact this
def JY(h:qi w pa F R)(hp:jF R=none):
  Calls prog 40 #[(pa:Nat)] w λe w'=>e=.returned (.tuple #[.agg #[(0:Int),.int .u32 0],(32:Int)])/\ae [] w w':=by
 obtain⟨ga,v,rfl,h⟩:=h;have c:qm R=none:=by unfold jF at hp;cases j:qm R with|none=>rfl|some q=>rw[j] at hp;cases hp
 have k:=λW (i:ae [] w W)=>Jh (h.upd i σ) c;clear h
 go_enter func40,ntmps40
 go_wp2_with ((((with_reducible refine(k _ β).mono ?_));rintro e b ⟨rfl,a⟩;(have f:b.cell? w.heap.size=some (.int .i64 0):=a.was γ);(have g:b.cell? ⟨w.heap.size,1,none⟩=some (.int .u32 0):=a.was γ);(have l:b.frozen? w.heap.size=false:=a.ay (v:=.int .i64 0) γ σ γ);(have m:b.frozen? ⟨w.heap.size,1,none⟩=false:=a.ay (v:=.int .u32 0) γ σ γ);(have d:ae [] w b:=ae.trans β a)))
 exact bodyPost_ret (v:=.tuple #[.agg #[(0:Int),.int .u32 0],(32:Int)]) (by simp[results,results40,go_sem,f,g]) rfl ⟨rfl,β⟩
def Zr{R:AR}{x:Nat}(a:x<R.sl.length)(p:Nat×Bool)(j:Nat):Rl (R.put x p) j=if j=x*2+1 then .bool p.2 else if j=x*2 then .int .u32 (p.1:Int) else Rl R j:=by
 unfold Rl;rw[AR.Aj,AR.Dh]
 grind
def vN.put(h:vN w pa ga v R){x:Nat}(g:x<R.sl.length)(p:Nat×Bool)(l:(R.put x p).Ok){w':World}(a:aQ w' ga 152 (R.sl.length*2) (λi=>if i=x*2+1 then .bool p.2 else if i=x*2 then .int .u32 (p.1:Int) else Rl R i))(c:ae [ga] w w'):
  vN (w'.setCell ⟨pa,3,none⟩ (.int .i64 ((R.put x p).cnt:Int))) pa ga v (R.put x p):=by
 have b:ae [pa,ga] w (w'.setCell ⟨pa,3,none⟩ (.int .i64 ((R.put x p).cnt:Int))):=(c.mono σ).setCell (Α σ) _;refine⟨((h.head.upd c (by simpa using h.ne)).set 3 _).ext (λj d=>?_),?_,au h.wait b (λk f e=>?_),h.ne,h.nw,l⟩
 .rcases(ω:j=0\/j=1\/j=2\/j=3\/j=4) with rfl|rfl|rfl|rfl|rfl<;>simp[arC,AR.kV]
  all_goals rfl
 .rw[AR.kV];exact(a.far _ _ (by simpa using h.ne.symm)).ext (λj d=>(Zr g p j).symm)
 .have:=h.nw k f;simp at e;omega
def J4(h:qi w pa F R){x:Nat}{R':AR}(hp:jF R=some (x,R')):
  Calls prog 40 #[(pa:Nat)] w λe w'=>e=.returned (.tuple #[.agg #[(x:Int),.int .u32 ((R.g x:Int)+1)],(0:Int)])/\Goes F w w' (λF'=>qi w' pa F' R'):=by
 have M:=qw h.ok hp;obtain⟨ga,v,rfl,h⟩:=h;unfold jF at hp;cases E:qm R with
 |none=>rw[E] at hp;cases hp
 |some q=>
  obtain⟨y,c⟩:=q;rw[E] at hp;simp only[ϛ,ϖ,Prod.mk.injEq] at hp;obtain⟨rfl,rfl⟩:=hp;obtain⟨i,l,m,Z,L,s,t⟩:=M;obtain⟨_,_,_,u,_⟩:=zM h.ok E;have hmo:=h.ok.WE;have hlp:=h.head.lt;have hlg:=h.row.lt;have p:=λk hk=>(h.wait.lt k hk).2;have k:=λW (hW:ae [] w W)=>Ja (h.upd hW σ) E;have f:y<c.sl.length:=by rw[u];exact l
  have N:c.g y=R.g y:=by unfold AR.g;rw[u]
  have hcn:c.cnt<=65536:=by
   have h1:=NZ c.sl;have h2:=h.ok.n;unfold AR.cnt;rw[u] at h1 ⊢;omega
  have hv1:c.v y=false:=by unfold AR.v at m ⊢;rw[u];exact m
  have z:(c.put y (R.g y+1,true)).cnt=c.cnt+1:=by
   have:=AR.AZ (R:=c) y (R.g y+1,true) f
   grind
  have hwg:IntKind.u32.wrap ((R.g y:Int)+1)=(R.g y:Int)+1:=IntWalk.u32_in _ ω;have hwc:IntKind.i64.wrap ((c.cnt:Int)+1)=(c.cnt:Int)+1:=Μ _ ω;have O:=h.ne;have o:=h.nw;have U:=χ (ψ i z);clear h E i z t L s m u
  go_enter func40,ntmps40
  go_upto_region 4 with((((with_reducible refine(k _ β).mono ?_));rintro e g ⟨rfl,K,I,d,a⟩;(have q0:g.cell? w.heap.size=some (.int .i64 0):=a.kept γ ζ);(have q1:g.cell? ⟨w.heap.size,1,none⟩=some (.int .u32 0):=a.kept γ ζ);(have f0:g.frozen? w.heap.size=false:=a.ay (v:=.int .i64 0) γ ζ γ);(have f1:g.frozen? ⟨w.heap.size,1,none⟩=false:=a.ay (v:=.int .u32 0) γ ζ γ)))
  have b0:=d.c0;have b1:=d.s0 f;have b2:=d.s1 f;have b3:=d.c3;have g1:=d.row.free (y*2);have g2:=d.row.free (y*2+1);have g3:=d.head.free 3;have XN:(y:Int)<(c.sl.length:Int):=ω;rw[N] at b1;have A:¬ga=w.heap.size:=ω;have B:¬pa=w.heap.size:=ω;have C:¬w.heap.size=ga:=ω;have D:¬w.heap.size=pa:=ω;have hnp:¬ga=pa:=λe=>O e.symm;have b:=(d.row.set (y*2) (.int .u32 ((R.g y:Int)+1))).set (y*2+1) (.bool true);have HM:=χ (ψ d (ψ b (ψ a (ψ I (ψ o p)))));clear d b a k I o p;generalize G:R.g y=r at *;generalize c.cnt=Y at *
  generalize H:c.sl.length=n at *;have J:=χ (ψ G H);clear G H;go_wp2;obtain⟨d,b,a,I,o,p⟩:=HM.out;have e1:(((r+1:Nat)):Int)=(r:Int)+1:=ω;have hU:ae [ga] g ((g.setCell ⟨ga,y*2,none⟩ (.int .u32 ((r:Int)+1))).setCell ⟨ga,y*2+1,none⟩ (.bool true)):=((ae.refl _ _).setCell (Α σ) _).setCell (Α σ) _;have P:=U.out.1;have Q:=U.out.2
  have X:=d.put (by rw [J.out.2];exact f) (r+1,true) P (w':=(g.setCell ⟨ga,y*2,none⟩ (.int .u32 ((r:Int)+1))).setCell ⟨ga,y*2+1,none⟩ (.bool true)) (by
   rw[J.out.2]
   exact b.ext (λj hj=>by dsimp only;rw [e1])) hU
  rw[Q,show((Y+1:Nat):Int)=(Y:Int)+1 by omega] at X;have hF:∀x,x∈pa::ga::K.ownBlock.toList->x∈pa::ga::v.ownBlock.toList:=λx l=>by rw[I] at l;exact l
  have T:ae (pa::ga::v.ownBlock.toList) w g:=ae.trans ((ae.refl _ _).alloc _) (a.mono σ);refine bodyPost_ret (v:=.tuple #[.agg #[(y:Int),.int .u32 ((r:Int)+1)],(0:Int)]) (by simp[results,results40,go_sem,q0,q1,A,B,C,D]) rfl ⟨by rw[J.out.1],pa::ga::K.ownBlock.toList,⟨ga,K,rfl,?_⟩,?_,λx l=>Α (hF x l)⟩
  .rw[J.out.1];refine X.upd (S:=[w.heap.size]) (((ae.refl _ _).setCell (Α σ) _).setCell (Α σ) _) (λx l hm=>?_);simp at l
   grind
  .exact((((T.setCell (Α σ) _).setCell (Α σ) _).setCell (Α σ) _).setCell (Β (Θ _)) _).setCell (Β (Θ _)) _
end
def ab7{R:AR}{x:Nat}(h:R.Ok)(b:R.v x=true):(R.put x (R.g x,false)).Ok:=by
 have k:=(Gn h b).1;refine⟨k.n,k.nx,k.WE,λz a=>k.wt z ?_,h.nd,k.fresh,k.lv,k.gm⟩
 show z∈(if R.g x<R.most then R.wait++[x] else R.wait)
 split
 .exact τ.2 (Α a)
 .exact a
section
variable{w:World}{pa ga:Nat}{v:Value}{R:AR}{F:List Nat}
def vN.aeP{a:World}(i:aQ a pa 120 5 (arC ga v R))(l:aQ a ga 152 (R.sl.length*2) (Rl R))(b:pa≠ga){R':AR}{v':Value}(m:R'.Ok)(c:R'.sl=R.sl)(n:R'.next=R.next)(o:R'.most=R.most)(p:a.ownsRow 0 3 1 v' R'.wait.length (aZ (cz R'.wait)))(f:∀k,v'.ownBlock=some k->k≠pa/\k≠ga):
  vN (a.setCell ⟨pa,1,none⟩ v') pa ga v' R':=by
 have d:ae [pa] a (a.setCell ⟨pa,1,none⟩ v'):=(ae.refl _ _).setCell (Α σ) _;refine⟨(i.set 1 v').ext (λj g=>?_),?_,au p d (λk h e=>(f k h).1 (by simpa using e)),b,f,m⟩
 .rcases(ω:j=0\/j=1\/j=2\/j=3\/j=4) with rfl|rfl|rfl|rfl|rfl<;>simp[arC,AR.cnt,c,n,o]
 .rw[c];exact(l.upd d (by simp;exact λe=>b e.symm)).ext (λj g=>by unfold Rl AR.g AR.v;rw[c])
def CQ(h:qi w pa F R)(x:Nat)(hv:R.v x=true):
    Calls prog 43 #[(pa:Nat),.agg #[(x:Int),.int .u32 (R.g x:Int)]] w λe w'=>e=.returned (0:Int)/\Goes F w w' (λF'=>qi w' pa F' (iB R x)):=by
  have hx:=AR.Dq hv;have a:=h.ok;have hgm:=a.gm x;have hmo:=a.WE;have kl:=λW (hW:ae [] w W)=>pI (h.upd hW σ) (x:Int) (R.g x:Int) ω;have J:gL R (x:Int) (R.g x:Int)=true:=by
    unfold gL
    grind
  rw[J] at kl;obtain⟨ga,v,rfl,h⟩:=h;obtain⟨l,m,rfl,hcv⟩:=bz h.wait;have n:=Gn a hv;have b:=ab7 a hv;have hcn:R.cnt<=65536:=by have Z:=NZ R.sl;have h2:=a.n;unfold AR.cnt;omega
  have q:(R.put x (R.g x,false)).cnt+1=R.cnt:=by
    have:=AR.AZ (R:=R) x (R.g x,false) hx
    grind
  have hwc:IntKind.i64.wrap ((R.cnt:Int)-1)=(R.cnt:Int)-1:=Μ _ ω;have hlg:=h.row.lt;have K:=h.ne;have hwl:=AR.NT a;have hnn:=a.n;have hnx:=a.nx;have H:=χ (ψ h (ψ b (ψ n q)));have L:=λk i=>(h.wait.lt k i).2;have r:=χ (ψ L h.nw);have M:=h.c0;have s:=h.c3;have b1':=h.c1;have t:=h.s1 hx;have N:=h.row.free (x*2+1);have O:=h.head.free 3;have Dy:(x:Int)<(R.sl.length:Int):=ω;clear h a n b J L hv;have hnp:¬ga=pa:=λe=>K e.symm
  go_enter func43,ntmps43
  go_wp2_with ((((with_reducible refine(kl _ β).mono ?_));rintro e G ⟨rfl,d⟩;(have q0:G.cell? w.heap.size=some ((x:Int):V):=d.was γ);(have q1:G.cell? ⟨w.heap.size,1,none⟩=some (.int .u32 (R.g x:Int)):=d.was γ);(have y:ae [] w G:=ae.trans β d);(have b0:=y.was M);(have b3:=y.was s);(have s1:=y.was t);(have g2:=y.ay t σ N);(have g3:=y.ay s σ O)))
  have HU:=χ y;have P:=d.size;rw[Κ] at P;clear y d kl M b1' s t N O
  go_region
  go_upto_region 5 with(fail)
  obtain⟨hM,b,n,q⟩:=H.out;have A:=hM.upd HU.out σ
  have hP:=λW (hW:ae [] G W)=>(A.upd hW σ).put hx (R.g x,false) b (w':=W.setCell ⟨ga,x*2+1,none⟩ (.bool false)) (((A.upd hW σ).row.set (x*2+1) (.bool false)).ext (λj hj=>by
    dsimp only
    by_cases e1:j=x*2+1
    · grind
    · rw[Γ e1,Γ e1]
      by_cases X:j=x*2
      · rw[Δ X,X];unfold Rl;rw[Δ ω,show x*2 / 2=x by omega]
      · rw [Γ X])) ((ae.refl _ _).setCell (Α σ) _)
  rw[show(((R.put x (R.g x,false)).cnt:Nat):Int)=(R.cnt:Int)-1 by omega] at hP;refine aU (λW=>W.cell? w.heap.size=some ((x:Int):V)/\W.cell? ⟨w.heap.size,1,none⟩=some (.int .u32 (R.g x:Int))/\vN W pa ga (.slice l R.wait.length m) (R.put x (R.g x,false))/\ae [pa,ga] w W) ⟨γ,γ,(hP G (ae.refl _ _)).upd (S:=[]) ((ae.refl _ _).drew) σ,?_⟩ ?_
  · have:=HU.out.mono (T:=[pa,ga]) σ
    (repeat(first|assumption|exact ae.refl _ _|refine ae.alloc ?_ _|refine ae.drew ?_|refine ae.drewN ?_ _|refine ae.setCell ?_ ?_ _|focus(left;simp;done)|focus(right;simp;done)|focus(right;simp;omega)))
  rintro W ⟨q2,q3,g,D⟩;clear A hP hM b0 b3 s1 g2 g3 q0 q1;have c1:=g.c1;have c4:=g.c4;have f1:=g.head.free 1;have hw:=g.wait;have hlW:w.heap.size<W.heap.size:=Ε W _ q2;have Q:=χ (ψ g (ψ n D));clear g D n q b;rw[show(R.put x (R.g x,false)).most=R.most from rfl] at c4;rw[show(R.put x (R.g x,false)).wait=R.wait from rfl] at hw
  by_cases C:R.g x<R.most
  · have o:decide ((R.g x:Int)<(R.most:Int))=true:=by simp;exact C
    go_wp2
    go_quiet (fail)
    go_wp2;refine aU (λc=>ae [] W c) β ?_;intro c p;have p1:=p.was c1;have p2:=p.was q2;have pf1:=p.ay c1 σ f1;have Si:=au (S:=[]) hw p σ;have hsz6:=p.size;have s0:ae [] c (c.drew.alloc (.cells #[(x:Int)] 3)):=((ae.refl _ _).drew).alloc _;have hpa6:pa<c.heap.size:=Ε c _ p1;have hrs6:w.heap.size<c.heap.size:=Ε c _ p2;clear c1 c4 f1 q2 q3 o hw
    go_region_law
      (first
        | (refine kX rfl _ _ 77 rfl 0 3 (.int .i64 0) 1 8 underlying77 gN rfl δ (.slice l R.wait.length m) R.wait.length (aZ (cz R.wait)) rfl (Si.drew.alloc _) c.heap.size [.int .i64 (x:Int)] rfl rfl (λj u hj=>pM c [.int .i64 (x:Int)] 3 j u hj) (by simp [Value.oneCell']) μ ω σ ?_
           intro v2 w2 I hu2 hv2;have f:ae (Value.slice l R.wait.length m).ownBlock.toList c w2:=(s0.mono σ).trans hu2;have B:pa∉(Value.slice l R.wait.length m).ownBlock.toList:=λe=>by have:=r.out.2 pa (by simpa using e);omega
           have z1:=f.kept p1 B;have zf1:=f.ay p1 B pf1
           obtain ⟨a2,cap2,rfl,hcap2⟩:=bz I))
    all_goals
      go_wp2;go_ret;obtain⟨g,n,D⟩:=Q.out;have wR:=g.upd p σ;have hgw:ga∉(Value.slice l R.wait.length m).ownBlock.toList:=λe=>by have:=r.out.2 ga (by simpa using e);omega
      have E:iB R x={ R.put x (R.g x,false) with wait:=R.wait++[x] }:=by unfold iB;rw[Δ C]
      have K9:∀k,(Value.slice a2 (R.wait.length+1) cap2).ownBlock=some k->(Value.slice l R.wait.length m).ownBlock=some k\/c.heap.size<=k:=λk i=>by
        rcases hv2 with h|h
        · grind
        · rw[h] at i;simp at i;exact Β ω
      have U:=vN.aeP (wR.head.upd f B) (wR.row.upd f hgw) K (R':=iB R x) (v':=.slice a2 (R.wait.length+1) cap2) n.1 (by rw [E]) (by rw [E]) (by rw [E]) (by
        have X:(iB R x).wait=R.wait++[x]:=by rw[E]
        rw[X,υ,show cz (R.wait++[x])=cz R.wait++[(x:Int)] from by unfold cz;simp,dO];exact I) (λk i=>by
        rcases K9 k i with h|h
        · exact r.out.2 k h
        · omega)
      refine⟨rfl,pa::ga::(Value.slice a2 (R.wait.length+1) cap2).ownBlock.toList,⟨ga,_,rfl,U⟩,?_,λk i=>?_⟩
      · have Z:ae (pa::ga::(Value.slice l R.wait.length m).ownBlock.toList) w c:=(D.mono (λz Y=>by simp at Y ⊢;omega)).trans (p.mono σ)
        exact(Z.trans (f.mono (λz Y=>by simp[Y]))).setCell (Α σ) _
      · grind
  · have o:decide ((R.g x:Int)<(R.most:Int))=false:=ζ
    go_wp2
    go_quiet (fail)
    go_wp2;go_ret;obtain⟨g,n,D⟩:=Q.out;have E:iB R x=R.put x (R.g x,false):=by unfold iB;rw[Γ C];rfl
    rw[E];refine⟨rfl,_,⟨ga,_,rfl,g.upd (S:=[]) β σ⟩,?_,λk i=>Α i⟩;have Z:ae (pa::ga::(Value.slice l R.wait.length m).ownBlock.toList) w W:=D.mono (λz Y=>by simp at Y ⊢;omega);exact Z.trans β
end
def pqC(K:NestQ)(pa pn:Nat)(kd d:Int)(q:Nat)(j:Nat):Value:=[Value.int .i64 kd,.int .i64 d,.pointer (some pa),.iface K.ty (.pointer (some pn)),.int .u64 (q:Int)].getD j undef
structure Dt(K:NestQ)(w:World)(p pa pn:Nat)(Fa Fn:List Nat)(kd d:Int)(R:AR)(A:NS)(q:Nat):Prop where
 head:aQ w p 89 5 (pqC K pa pn kd d q)
 ar:qi w pa Fa R
 nest:K.at_ w pn Fn A
 s1:p∉Fa
 s2:p∉Fn
 s3:∀x,x∈Fa->x∉Fn
 len:R.sl.length=A.cs.length
 link:∀x:Nat,R.v x=bY A (x:Int)
def bR(K:NestQ)(w:World)(p:Nat)(F:List Nat)(kd d:Int)(R:AR)(A:NS)(q:Nat):Prop:=∃pa pn Fa Fn,F=p::(Fa++Fn)/\Dt K w p pa pn Fa Fn kd d R A q
section
variable{K:NestQ}{w:World}{p pa pn:Nat}{Fa Fn F:List Nat}{kd d:Int}{R:AR}{A:NS}{q:Nat}
def Dt.c2(h:Dt K w p pa pn Fa Fn kd d R A q):w.cell? ⟨p,2,none⟩=some ((pa:Nat):V):=h.head.cellAt 2 ω rfl
def Dt.c3(h:Dt K w p pa pn Fa Fn kd d R A q):w.cell? ⟨p,3,none⟩=some (.iface K.ty (.pointer (some (pn:Nat)))):=h.head.cellAt 3 ω rfl
def Dt.c4(h:Dt K w p pa pn Fa Fn kd d R A q):w.cell? ⟨p,4,none⟩=some (.int .u64 (q:Int)):=h.head.cellAt 4 ω rfl
def Dt.upd{w':World}{S:List Nat}(h:Dt K w p pa pn Fa Fn kd d R A q)(c:ae S w w')(f:∀x,x∈S->x∉p::(Fa++Fn)):Dt K w' p pa pn Fa Fn kd d R A q:=
 ⟨h.head.upd c (λe=>f _ e σ),h.ar.upd c (λx a b=>f x a (by simp[b])),K.upd h.nest c (λx a b=>f x a (by simp[b])),h.s1,h.s2,h.s3,h.len,h.link⟩
def bR.upd{w':World}{S:List Nat}(h:bR K w p F kd d R A q)(a:ae S w w')(b:∀x,x∈S->x∉F):bR K w' p F kd d R A q:=by
 obtain⟨pa,pn,Fa,Fn,rfl,h⟩:=h;exact⟨pa,pn,Fa,Fn,rfl,h.upd a b⟩
def bR.ag{w':World}(h:bR K w p F kd d R A q)(a:ae [] w w'):bR K w' p F kd d R A q:=h.upd a σ
def Dt.lt(h:Dt K w p pa pn Fa Fn kd d R A q):∀x,x∈p::(Fa++Fn)->x<w.heap.size:=λx a=>by
 simp only[ρ,τ] at a;rcases a with rfl|a|a
 .exact h.head.lt
 .exact h.ar.lt x a
 .exact K.lt h.nest x a
def bR.lt(h:bR K w p F kd d R A q):∀x,x∈F->x<w.heap.size:=by
 obtain⟨pa,pn,Fa,Fn,rfl,h⟩:=h;exact h.lt
def bR.ok(h:bR K w p F kd d R A q):A.Ok/\R.Ok/\R.sl.length=A.cs.length/\∀x:Nat,R.v x=bY A (x:Int):=by
 obtain⟨pa,pn,Fa,Fn,rfl,h⟩:=h;exact⟨K.ok h.nest,h.ar.ok,h.len,h.link⟩
def Dt.Oo(h:Dt K w p pa pn Fa Fn kd d R A q){w':World}{a:List Nat}{A':NS}(g:K.at_ w' pn a A')(i:ae Fn w w')(f:∀x,x∈a->x∈Fn\/w.heap.size<=x)(j:A'.cs.length=A.cs.length){R':AR}(k:qi w' pa Fa R')(b:R'.sl.length=R.sl.length)
  (l:∀x:Nat,R'.v x=bY A' (x:Int)):Dt K w' p pa pn Fa a kd d R' A' q:=
 ⟨h.head.upd i h.s2,k,g,h.s1,λe=>by rcases f _ e with e|e;exact h.s2 e;have:=h.head.lt;omega,λx c e=>by rcases f _ e with e|e;exact h.s3 x c e;have:=h.ar.lt x c;omega,by rw[b,j];exact h.len,l⟩
def Xh(A:NS)(x:Int):bY (aO A) x=bY A x:=by unfold aO;split<;>rfl
def Ra(A:NS):(aO A).cs.length=A.cs.length:=by unfold aO;split<;>rfl
def yC(h:bR K w p F kd d R A q):
  Calls prog 18 #[(p:Nat)] w λe w'=>e=.returned (.tuple #[(dF A:Int),.int .i64 (if dF A=0 then 32 else 0)])/\Goes F w w' (λF'=>bR K w' p F' kd d R (aO A) q):=by
 obtain⟨pa,pn,Fa,Fn,rfl,h⟩:=h;have v:=h.c3;obtain⟨f,u,k,l⟩:=K.make h.nest;unfold Enters at k;have m:=(l w (ae.refl _ _)).1;have n:=(l w (ae.refl _ _)).2
 have o:=χ (show ∀w' b,K.at_ w' pn b (aO A)->ae Fn w w'->(∀x,x∈b->x∈Fn\/w.heap.size<=x)->Goes (p::(Fa++Fn)) w w' (λF'=>bR K w' p F' kd d R (aO A) q) from λw' b i c g=>by
  refine⟨p::(Fa++b),⟨pa,pn,Fa,b,rfl,h.Oo i c g (Ra A) (h.ar.upd c (λx a m=>h.s3 x m a)) rfl (λx=>by rw[Xh];exact h.link x)⟩,c.mono (λx a=>by simp[a]),λx a=>?_⟩;simp only[ρ,τ] at a ⊢;rcases a with a|a|a
  .exact Α (Α a)
  .exact Α (Β (Α a))
  .rcases g x a with a|a
   .exact Α (Β (Β a))
   .exact Β a)
 clear h l;generalize dF A=r at *
 by_cases j:r=0
 .subst j
  go_enter func18,ntmps18
  go_wp2_with (((with_reducible refine n.mono ?_);rintro e s ⟨rfl,b,i,c,g⟩))
  go_ret2;exact⟨rfl,o.out _ _ i c g⟩
 .have t:(r == 0)=false:=by simpa using j
  rw[Γ j];clear j
  go_enter func18,ntmps18
  go_wp2_with (((with_reducible refine n.mono ?_);rintro e s ⟨rfl,b,i,c,g⟩))
  go_ret2;exact⟨rfl,o.out _ _ i c g⟩
def DN(h:bR K w p F kd d R A q)(c k:Int)(l:aW A c=false):
  Calls prog 17 #[(p:Nat),c,k] w λe w'=>e=.returned (.tuple #[.agg #[(0:Int),.int .u32 0],(171:Int)])/\ae [] w w':=by
 obtain⟨pa,pn,Fa,Fn,rfl,h⟩:=h;have o:=h.c3;have j:=h.head.lt;have g:=K.upd h.nest (((ae.refl [] w).alloc (.cells #[(0:Int),.int .u32 0] 46))) σ;obtain⟨f,n,a,b⟩:=K.has c g;unfold Enters at a;have r:=(b _ (ae.refl _ _)).1;have i:=(b _ (ae.refl _ _)).2;rw[l] at i;clear h b g
 go_enter func17,ntmps17
 go_wp2_with (((with_reducible refine i.mono ?_);rintro e m ⟨rfl,rfl⟩))
 exact bodyPost_ret (v:=.tuple #[.agg #[(0:Int),.int .u32 0],(171:Int)]) (by simp[results,results17,go_sem]) rfl ⟨rfl,β⟩
end
end Go.Proofs.YtnpdakpagnpanaaGreat
namespace Go.Proofs.YtnpdakpagnpanaaGreat
open Tryz
open Go.RowKit
def xe(k d:Int):Int:=
 if k<1\/8<k then 21 else if(k=2/\(d<2\/16<d))\/(k≠2/\d≠0) then 22 else 0
def WM{k d:Int}(h:k<1\/8<k):xe k d=21:=by unfold xe;rw[Δ h]
def UC{k d:Int}(h:¬(k<1\/8<k))(a:(k=2/\(d<2\/16<d))\/(k≠2/\d≠0)):xe k d=22:=by unfold xe;rw[Γ h,Δ a]
def aao{k d:Int}(h:¬(k<1\/8<k))(a:¬((k=2/\(d<2\/16<d))\/(k≠2/\d≠0))):xe k d=0:=by unfold xe;rw[Γ h,Γ a]
def Hw{k d:Int}(h:xe k d=0):1<=k/\k<=8/\(k=2->2<=d/\d<=16)/\(k≠2->d=0):=by
 unfold xe at h;split at h
 .omega
 .grind
def Fv(k d:Int)(w:World):
  Calls prog 33 #[.agg #[k,d]] w λe w'=>e=.returned (xe k d:Int)/\ae [] w w':=by
 go_enter func33,ntmps33
 go_wp2
 all_goals
  go_ret;refine⟨jW ?_,(ae.refl _ _).alloc _⟩
  try simp only[bne_iff_ne,ne_eq,bne_eq_false_iff_eq] at *
  first
  |(rw[WM ω];done)
  |(rw[UC ω ω];done)
  |(rw[aao ω ω];done)
def xH(k d:Int)(w:World):
  Calls prog 21 #[.agg #[k,d]] w λe w'=>e=.returned (xe k d:Int)/\ae [] w w':=by
 go_enter func21,ntmps21
 go_wp2
 all_goals
  go_ret;refine⟨jW ?_,(ae.refl _ _).alloc _⟩
  try simp only[bne_iff_ne,ne_eq,bne_eq_false_iff_eq,beq_iff_eq,beq_eq_false_iff_ne] at *
  first
  |(rw[WM ω];done)
  |(rw[UC ω ω];done)
  |(rw[aao ω ω];done)


open Go

def IL(w:World)(p n:Nat):Prop:=∃c F1,w.cell? p=some ((c:Nat):V)/\aD w c F1 (NS.new n) 0
def qG(K:NestQ)(kd d:Int)(n:Nat):Prop:=∀W:World,Calls prog 35 #[.agg #[kd,d],(n:Int)] W λe w'=>∃pn Fn,e=.returned (.tuple #[.iface K.ty (.pointer (some (pn:Nat))),(0:Int)])/\K.at_ w' pn Fn (NS.new n)/\IL w' pn n/\ae [] W w'/\∀x,x∈Fn->W.heap.size<=x
def abf(n:Nat)(x:Nat):bY (NS.new n) (x:Int)=false:=by
 cases h:bY (NS.new n) (x:Int) with
 |false=>rfl
 |true=>have:=(aj _ _).1 h;rw[NS.uK] at this;exact absurd this.2 (by simp[Cl.z])
def aeD(n m x:Nat):(AR.new n m).v x=false:=by
 unfold AR.new AR.v
 grind
def EP{K:NestQ}{kd d:Int}(n m:Nat)(w:World)(M:n<=65536)(N:1<=m/\m<=4294967295)(A:xe kd d=0)(B:qG K kd d n):
  Calls prog 11 #[.agg #[kd,d],(n:Int),.int .u32 (m:Int)] w λe w'=>∃p F,e=.returned (.tuple #[(p:Nat),(0:Int)])/\bR K w' p F kd d (AR.new n m) (NS.new n) 0/\ae [] w w'/\∀x,x∈F->w.heap.size<=x:=by
 have y:=λW=>Fv kd d W;rw[A] at y;have C:=λW=>Qy n m W M N;unfold qG at B;have i:(NS.new n).cs.length=n:=by simp[NS.new]
 have k:(AR.new n m).sl.length=n:=by simp[AR.new]
 have z:=χ (ψ i k);clear i k A
 go_enter func11,ntmps11
 go_wp2_with (first
  |(((with_reducible refine(y _).mono ?_));rintro e q ⟨rfl,c⟩;(have D:q.cell? w.heap.size=some (kd:V):=c.was γ);(have E:q.cell? ⟨w.heap.size,1,none⟩=some (d:V):=c.was γ);(have l:ae [] w q:=ae.trans β c))
  |(((with_reducible refine(C _).mono ?_));rintro e O ⟨pa,Fa,rfl,u,b,r⟩;(have G:=b.was D);(have H:=b.was E))
  | (((with_reducible refine (B _).mono ?_));rintro e g ⟨pn,Fn,rfl,v,P,a,h⟩;(have Q:=a.was G);(have R:=a.was H)))
 go_ret2;have I:=eO g [.int .i64 kd,.int .i64 d,.pointer (some (pa:Nat)),.iface K.ty (.pointer (some (pn:Nat))),.int .u64 0] 89;have s:ae [] g (g.alloc (.cells #[kd,d,(pa:Nat),.iface K.ty (.pointer (some (pn:Nat))),.int .u64 0] 89)):=(ae.refl _ _).alloc _;have o:=u.lt;have t:=K.lt v;have S:=a.size;have T:=l.size;have U:=b.size
 refine⟨g.heap.size,g.heap.size::(Fa++Fn),rfl,⟨pa,pn,Fa,Fn,rfl,⟨I.ext (λj X=>by unfold pqC;rfl),(u.upd a σ).upd s σ,K.upd v s σ,λe=>by have:=o _ e;omega,λe=>by have:=t _ e;omega,λx J L=>by have:=o x J;have:=h x L;omega,by rw[z.out.1,z.out.2],λx=>by rw[aeD,abf]⟩⟩,((l.trans b).trans a).trans s,λx f=>?_⟩;simp only[ρ,τ] at f;rcases f with rfl|f|f
 .omega
 .have:=r x f;omega
 .have:=h x f;omega
section
variable{K:NestQ}{w:World}{p pa pn:Nat}{Fa Fn F:List Nat}{kd d:Int}{R:AR}{A:NS}{q:Nat}
def Hl(h:bR K w p F kd d R A q)(l k:Int)(x:aW A l=true)(y:jF R=none):
  Calls prog 17 #[(p:Nat),l,k] w λe w'=>e=.returned (.tuple #[.agg #[(0:Int),.int .u32 0],(32:Int)])/\ae [] w w':=by
 obtain⟨pa,pn,Fa,Fn,rfl,h⟩:=h;have C:=h.c2;have D:=h.c3;have r:=h.head.lt;have c:ae [] w (w.alloc (.cells #[(0:Int),.int .u32 0] 46)):=(ae.refl [] w).alloc _;have m:=K.upd h.nest c σ;have s:=λW (u:ae [] w W)=>JY (h.ar.upd u σ) y;obtain⟨f,B,g,i⟩:=K.has l m;unfold Enters at g;have E:=(i _ (ae.refl _ _)).1;have n:=(i _ (ae.refl _ _)).2;rw[x] at n;clear h i m
 go_enter func17,ntmps17
 go_wp2_with (first
  |((with_reducible refine n.mono ?_);rintro e z ⟨rfl,rfl⟩)
  | (((with_reducible refine (s _ β).mono ?_));rintro e b ⟨rfl,a⟩;(have o:b.cell? w.heap.size=some (.int .i64 0):=a.was γ);(have t:b.cell? ⟨w.heap.size,1,none⟩=some (.int .u32 0):=a.was γ);(have G:b.frozen? w.heap.size=false:=a.ay (v:=.int .i64 0) γ σ γ);(have H:b.frozen? ⟨w.heap.size,1,none⟩=false:=a.ay (v:=.int .u32 0) γ σ γ);(have j:=Ε b _ o);(have I:ae [] w b:=c.trans a)))
 exact bodyPost_ret (v:=.tuple #[.agg #[(0:Int),.int .u32 0],(32:Int)]) (by simp[results,results17,go_sem,j,o,t]) rfl ⟨rfl,β⟩
def abH{A:NS}{a x k s:Int}(b:oF A a x=true)(y:Nat):bY (aN A a x k s) (y:Int)=(bY A (y:Int) || decide ((y:Int)=x)):=by
 obtain⟨c,d,e⟩:=(fB _ _ _).1 b;have f:=(aF _ _).1 c;have g:=(il _ _).1 d;unfold aN;rw[Δ b];have h:bY (gu A x.toNat ⟨a,k,s⟩) (y:Int)=true↔(bY A (y:Int) || decide ((y:Int)=x))=true:=by
  rw[aj,fM,mg,Bool.or_eq_true,aj,Ο]
  grind
 grind
def Vx(A:NS)(h x k s:Int):(aN A h x k s).cs.length=A.cs.length:=by unfold aN;split;exact fM _ _ _;rfl
def VQ{R R':AR}{x:Nat}(h:R.Ok)(hp:jF R=some (x,R'))(y:Nat):R'.v y=(R.v y || decide ((y:Int)=(x:Int))):=by
 obtain⟨_,b,c,_,a,_⟩:=qw h hp;have e:R'.v y=(R.put x (R.g x+1,true)).v y:=by unfold AR.v AR.put;rw[a]
 rw[e,AR.Dh]
 grind
def uO(h:bR K w p F kd d R A q)(t k:Int)(hB:aW A t=true)(hk:-9223372036854775808<=k/\k<=9223372036854775807)(hq:q+1<=18446744073709551615){x:Nat}{R':AR}(hT:jF R=some (x,R')):
  Calls prog 17 #[(p:Nat),t,k] w λe w'=>e=.returned (.tuple #[.agg #[(x:Int),.int .u32 ((R.g x:Int)+1)],(0:Int)])/\
   Goes F w w' (λF'=>bR K w' p F' kd d R' (aN A t (x:Int) k ((q:Int)+1)) (q+1)):=by
 obtain⟨t,rfl⟩:∃n:Nat,t=n:=⟨t.toNat,by have:=(aF _ _).1 hB;omega⟩;obtain⟨pa,pn,Fa,Fn,rfl,h⟩:=h;have hok:=K.ok h.nest;have m:=qw h.ar.ok hT;have U:=h.link;have X:oF A (t:Int) (x:Int)=true:=by
  rw[fB];refine⟨hB,(il _ _).2 ⟨ω,by have:=h.len;omega⟩,?_⟩;rw[←h.link];exact m.2.2.1
 have Y:=h.len;have u:-9223372036854775808<=k/\k<=9223372036854775807/\0<=(q:Int)+1/\(q:Int)+1<=18446744073709551615:=ω;have c2:=h.c2;have Z:=h.c3;have E:=h.c4;have f4':=h.head.free 4;have hpl:=h.head.lt;have l:=h.ar.lt;have i:=K.lt h.nest;have C:=h.s1;have M:=h.s2;have B:=h.s3;have o:ae [] w (w.alloc (.cells #[(0:Int),.int .u32 0] 46)):=(ae.refl [] w).alloc _;have N:=K.upd h.nest o σ;have kt:=λW (hW:ae [] w W)=>J4 (h.ar.upd hW σ) hT;obtain⟨f,fv,S,lN⟩:=K.has t N;unfold Enters at S;have hm:=(lN _ (ae.refl _ _)).1;have hc:=(lN _ (ae.refl _ _)).2
 rw[hB] at hc;have hwq:IntKind.u64.wrap ((q:Int)+1)=(q:Int)+1:=IntWalk.u64_in _ ω;have y7:w.heap.size∉Fa:=λe=>by have:=l _ e;omega
 have HH:=χ (ψ h (ψ N (ψ u (ψ l (ψ i (ψ B (ψ U m)))))));have HBp:=χ X;clear h lN N u l i B U m hok hB X
 go_enter func17,ntmps17
 go_upto_region 7 with (first
  |((with_reducible refine hc.mono ?_);rintro e w1 ⟨rfl,rfl⟩)
  | (((with_reducible refine (kt _ β).mono ?_));rintro e c ⟨rfl,I,Q,b,r⟩;(have c3:c.cell? ⟨p,3,none⟩=some (.iface K.ty (.pointer (some (pn:Nat)))):=b.kept (o.was Z) C);(have c4:c.cell? ⟨p,4,none⟩=some (.int .u64 (q:Int)):=b.kept (o.was E) C);(have f4:c.frozen? ⟨p,4,none⟩=false:=b.ay (o.was E) C (o.ay E σ f4'));(have q0:c.cell? w.heap.size=some (.int .i64 0):=b.kept γ y7);(have q1:c.cell? ⟨w.heap.size,1,none⟩=some (.int .u32 0):=b.kept γ y7);(have f0:c.frozen? w.heap.size=false:=b.ay (v:=.int .i64 0) γ y7 γ);(have f1:c.frozen? ⟨w.heap.size,1,none⟩=false:=b.ay (v:=.int .u32 0) γ y7 γ);(have hp2:=Ε c _ c3);(have hr2:=Ε c _ q0)))
 obtain⟨h,T,u,l,i,B,U,m⟩:=HH.out;have hd2:aQ c p 89 5 (pqC K pa pn kd d q):=(h.head.upd o σ).upd b C;have Xy:K.at_ c pn Fn A:=K.upd T b B;have g:ae [p] c ((c.setCell ⟨p,4,none⟩ (.int .u64 ((q:Int)+1))).alloc (.cells #[(x:Int),.int .u32 ((R.g x:Int)+1)] 46)):=((ae.refl _ _).setCell (Α σ) _).alloc _;have VZ:p∉I:=λe=>by rcases r _ e with e|e;exact C e;simp at e;omega
 refine aU (λW=>aQ W p 89 5 (pqC K pa pn kd d (q+1))/\qi W pa I R'/\K.at_ W pn Fn A/\W.cell? c.heap.size=some ((x:Int):V)/\W.cell? ⟨c.heap.size,1,none⟩=some (.int .u32 ((R.g x:Int)+1))/\
  W.cell? w.heap.size=some (.int .i64 0)/\W.cell? ⟨w.heap.size,1,none⟩=some (.int .u32 0)/\W.frozen? w.heap.size=false/\W.frozen? ⟨w.heap.size,1,none⟩=false/\ae [p] c W)
  ⟨((hd2.set 4 _).ext (λj hj=>?_)).alloc _,Q.upd g (λz a=>by simp at a;rw[a];exact VZ),K.upd Xy g (λz a=>by simp at a;rw[a];exact M),γ,γ,g.kept q0 ζ,g.kept q1 ζ,g.ay q0 ζ f0,g.ay q1 ζ f1,g⟩ ?_
 .rcases(ω:j=0\/j=1\/j=2\/j=3\/j=4) with rfl|rfl|rfl|rfl|rfl<;>simp[pqC]
 rintro W ⟨hd,hA,N,x0,x1,r0,r1,IC,Ho,Xz⟩;have z3:W.cell? ⟨p,3,none⟩=some (.iface K.ty (.pointer (some (pn:Nat)))):=hd.cellAt 3 ω rfl;have z4:W.cell? ⟨p,4,none⟩=some (.int .u64 ((q:Int)+1)):=hd.cellAt 4 ω (by simp[pqC]);obtain⟨f2,fv2,LU,xB⟩:=K.insert t x k ((q:Int)+1) u HBp.out N;unfold Enters at LU;have hm2:=(xB W.drew ((ae.refl _ _).drew)).1;have hc2:=(xB W.drew ((ae.refl _ _).drew)).2;have hszW:=Xz.size;have hrw:w.heap.size<W.heap.size:=ω;have hxw:c.heap.size<W.heap.size:=Ε W _ x0;have Kk:c.heap.size∉Fn:=λe=>by have:=i _ e;omega
 have rQ:w.heap.size∉Fn:=λe=>by have:=i _ e;omega
 have V3:∀z,z∈I->z∈Fn->False:=λz H P=>by
  rcases r z H with e|e
  .exact B z e P
  .have:=i z P;simp at e;omega
 have aak:∀z,z∈I->z<W.heap.size:=hA.lt;have G:ae (p::(Fa++Fn)) w c:=ae.trans ((ae.refl _ _).alloc _) (b.mono (λz a=>by simp[a]));have HFIN:Hid (∀D J,K.at_ D pn J (aN A t (x:Int) k ((q:Int)+1))->ae Fn W.drew D->(∀z,z∈J->z∈Fn\/W.drew.heap.size<=z)->∀v0 v1,Goes (p::(Fa++Fn)) w ((D.setCell w.heap.size v0).setCell ⟨w.heap.size,1,none⟩ v1) (λF'=>bR K ((D.setCell w.heap.size v0).setCell ⟨w.heap.size,1,none⟩ v1) p F' kd d R' (aN A t (x:Int) k ((q:Int)+1)) (q+1))):=by
  intro D J L tL O v0 v1;have s:ae Fn W D:=((ae.refl Fn W).drew).trans tL;have hr:ae [w.heap.size] D ((D.setCell w.heap.size v0).setCell ⟨w.heap.size,1,none⟩ v1):=((ae.refl _ _).setCell (Α σ) _).setCell (Α σ) _;have hrF5:w.heap.size∉J:=λe=>by rcases O _ e with e|e;exact rQ e;have e':W.heap.size<=w.heap.size:=e;omega
  have ae4:w.heap.size∉I:=λe=>by rcases r _ e with e|e;have:=l _ e;omega;simp at e;omega
  refine⟨p::(I++J),⟨pa,pn,I,J,rfl,⟨(hd.upd s M).upd hr ζ,(hA.upd s (λz H P=>V3 z P H)).upd hr (λz a=>by simp at a;rw[a];exact ae4),K.upd L hr (λz a=>by simp at a;rw[a];exact hrF5),VZ,λe=>?_,λz H P=>?_,?_,λy=>?_⟩⟩,?_,λz a=>?_⟩
  .rcases O _ e with e|e
   .exact M e
   .have e':W.heap.size<=p:=e;omega
  .rcases O _ P with e|e
   .exact V3 z H e
   .have e':W.heap.size<=z:=e;have:=aak z H;omega
  .rw[Vx,←Y,m.2.2.2.2.1];simp
  .rw[VQ h.ar.ok hT,abH HBp.out,U]
  .have H:=(G.trans (Xz.mono σ)).trans (s.mono (λz a=>by simp[a]));exact(H.setCell (Β (Θ _)) _).setCell (Β (Θ _)) _
  .simp only[ρ,τ] at a ⊢;rcases a with a|a|a
   .exact Α (Α a)
   .rcases r z a with e|e
    .exact Α (Β (Α e))
    .simp at e;exact Β ω
   .rcases O z a with e|e
    .exact Α (Β (Β e))
    .have e':W.heap.size<=z:=e;exact Β ω
 clear h T u l i U m hd2 Xy hd hA N Xz xB q0 q1 f0 f1 c3 c4 f4 c2 Z E f4' hc hm S kt Q g b r VZ V3 aak G
 go_region_law
  (first
   | (go_simp;(with_reducible refine hc2.mono ?_);rintro e D ⟨rfl,J,L,s,O⟩;(have y0:=s.kept x0 Kk);(have y1:=s.kept x1 Kk);(have t0:=s.kept r0 rQ);(have t1:=s.kept r1 rQ);(have tf0:=s.ay r0 rQ IC);(have tf1:=s.ay r1 rQ Ho)))
 all_goals
  go_wp2;exact bodyPost_ret (v:=.tuple #[.agg #[(x:Int),.int .u32 ((R.g x:Int)+1)],(0:Int)]) (by simp[results,results17,go_sem,t0,t1]) rfl ⟨rfl,HFIN.out _ _ L s O _ _⟩
end
section
variable{K:NestQ}{w:World}{p pa pn:Nat}{Fa Fn F:List Nat}{kd d:Int}{R:AR}{A:NS}{q:Nat}
def pQ(h:bR K w p F kd d R A q)(x:Nat)(S:R.v x=true):
  Calls prog 42 #[(p:Nat),.agg #[(x:Int),.int .u32 (R.g x:Int)]] w λe w'=>e=.returned (.tuple #[.agg #[.int .i64 (A.c x).k,.int .u64 (A.c x).s],(0:Int)])/\ae [] w w':=by
 obtain⟨pa,pn,Fa,Fn,rfl,h⟩:=h;have Y:bY A (x:Int)=true:=by rw[←h.link];exact S
 have hx:=AR.Dq S;have hgm:=h.ar.ok.gm x;have hmo:=h.ar.ok.WE;have B:gL R (x:Int) (R.g x:Int)=true:=by
  unfold gL;rw[show((x:Nat):Int).toNat=x by omega,S,Ν (ω:(0:Int)<=x),Ν (ω:(x:Int)<R.sl.length)];simp
 have Z:=λW (hW:ae [] w W)=>pI (h.ar.upd hW σ) (x:Int) (R.g x:Int) ω;rw[B] at Z;have C:=h.c2;have D:=h.c3;have HH:=χ h;clear h B S;generalize R.g x=gx at *
 go_enter func42,ntmps42
 go_upto_region 1 with(fail)
 refine aU (λW=>W.cell? w.heap.size=some ((x:Int):V)/\W.cell? ⟨w.heap.size,1,none⟩=some (.int .u32 (gx:Int))/\W.cell? (w.heap.size+1:Nat)=some (.int .i64 0)/\W.cell? ⟨w.heap.size+1,1,none⟩=some (.int .u64 0)/\W.frozen? (w.heap.size+1:Nat)=false/\W.frozen? ⟨w.heap.size+1,1,none⟩=false/\ae [] w W) ⟨σ,σ,σ,σ,σ,σ,β⟩ ?_;rintro W ⟨o,x1,r,s,u,y,i⟩;have Hy:=λX (g:ae [] W X)=>Z X (i.trans g);have e0:∀X,ae [] W X->X.cell? w.heap.size=some ((x:Int):V):=λX h=>h.was o
 have e1:∀X,ae [] W X->X.cell? ⟨w.heap.size,1,none⟩=some (.int .u32 (gx:Int)):=λX h=>h.was x1;have e2:∀X,ae [] W X->X.cell? ⟨p,2,none⟩=some ((pa:Nat):V):=λX h=>h.was (i.was C);have HU:=χ (ψ i (ψ o (ψ r (ψ s (ψ u y)))));clear i o x1 r s u y Z C
 go_region_held3 (ae [] W) (exact ν)
  (first
   | (((with_reducible refine (Hy _ ν).mono ?_));rintro e w1 ⟨rfl,T⟩;(have hv1:ae [] W w1:=ae.trans ν T)))
 go_upto_region 3 with(fail)
 obtain⟨i,o,r,s,u,y⟩:=HU.out;refine aU (λX=>ae [] W X) β ?_;intro X g;have y0:=g.was o;have z3:=g.was (i.was D);have E:=g.was r;have Q:=g.was s;have G:=g.ay r σ u;have H:=g.ay s σ y;have hN:=K.upd HH.out.nest (i.trans g) σ;obtain⟨f,fv,U,z⟩:=K.entry (x:Int) hN;unfold Enters at U;have hm:=(z X.drew ((ae.refl _ _).drew)).1;have hc:=(z X.drew ((ae.refl _ _).drew)).2;have a:ae [] X (X.alloc (.cells #[(0:Int),.int .u64 0] 97)).drew:=((ae.refl _ _).alloc _).drew;have I:=a.was E;have J:=a.was Q;have j:=a.ay E σ G
 have k:=a.ay Q σ H;have L:(X.alloc (.cells #[(0:Int),.int .u64 0] 97)).drew.cell? X.heap.size=some (.int .i64 0):=σ;have M:(X.alloc (.cells #[(0:Int),.int .u64 0] 97)).drew.cell? ⟨X.heap.size,1,none⟩=some (.int .u64 0):=σ;have l:(X.alloc (.cells #[(0:Int),.int .u64 0] 97)).drew.frozen? X.heap.size=false:=σ;have m:(X.alloc (.cells #[(0:Int),.int .u64 0] 97)).drew.frozen? ⟨X.heap.size,1,none⟩=false:=σ;have c:=χ (ψ I (ψ J (ψ j (ψ k (ψ L (ψ M (ψ l m)))))));clear I J j k L M l m;have hmB:=(z _ a).1
 have n:=(z _ a).2;rw[Y,show((x:Nat):Int).toNat=x by omega] at hc n;simp only[if_true] at hc n;have hrl:=Ε X _ E;have hxl:=Ε X _ y0;have hpl:=Ε X _ z3;dsimp only at hrl hxl hpl;have HU2:=χ (i.trans g);clear i o r s u y g hN z a Hy e0 e1 e2 D;generalize O:(A.c x).k=kk at *;generalize P:(A.c x).s=ss at *;have N:=χ (ψ O P);clear O P
 go_region_law
  (first
   |(go_simp;(with_reducible refine hc.mono ?_);rintro e t ⟨rfl,b⟩;(have s0:t.cell? (w.heap.size+1:Nat)=some (.int .i64 0):=b.was E);(have s1:t.cell? ⟨w.heap.size+1,1,none⟩=some (.int .u64 0):=b.was Q);(have fs0:=b.ay (v:=.int .i64 0) E σ G);(have fs1:=b.ay (v:=.int .u64 0) Q σ H);(have hsl:=Ε t _ s0))
   | (go_simp;(with_reducible refine n.mono ?_);rintro e t ⟨rfl,b⟩;(have s0:=b.was c.out.1);(have s1:=b.was c.out.2.1);(have fs0:=b.ay c.out.1 σ c.out.2.2.1);(have fs1:=b.ay c.out.2.1 σ c.out.2.2.2.1);(have hsl:=Ε t _ s0);(have b0:=b.was c.out.2.2.2.2.1);(have b1:=b.was c.out.2.2.2.2.2.1);(have fb0:=b.ay c.out.2.2.2.2.1 σ c.out.2.2.2.2.2.2.1);(have fb1:=b.ay c.out.2.2.2.2.2.1 σ c.out.2.2.2.2.2.2.2)))
 all_goals
  go_wp2;have h5:ae [] w t:=HU2.out.trans (ae.trans β b);exact bodyPost_ret (v:=.tuple #[.agg #[(kk:Int),.int .u64 ss],(0:Int)]) (by simp[results,results42,go_sem, *]) rfl ⟨by rw[N.out.1,N.out.2],β⟩
end
section
variable{K:NestQ}{w:World}{p pa pn:Nat}{Fa Fn F:List Nat}{kd d:Int}{R:AR}{A:NS}{q:Nat}
def Dt.moved(h:Dt K w p pa pn Fa Fn kd d R A q){w':World}{b:List Nat}(f:K.at_ w' pn b A)(c:ae Fn w w')(g:∀x,x∈b->x∈Fn\/w.heap.size<=x):Goes (p::(Fa++Fn)) w w' (λF'=>bR K w' p F' kd d R A q):=by
 refine⟨p::(Fa++b),⟨pa,pn,Fa,b,rfl,h.Oo f c g rfl (h.ar.upd c (λx a e=>h.s3 x e a)) rfl h.link⟩,c.mono (λx a=>by simp[a]),λx a=>?_⟩;simp only[ρ,τ] at a ⊢
 grind
def Goes.after{F:List Nat}{w w0 w':World}{P:List Nat->Prop}(h:Goes F w0 w' P)(a:ae [] w w0):Goes F w w' P:=by
 obtain⟨F',b,c,d⟩:=h;exact⟨F',b,(a.mono σ).trans c,λx e=>by rcases d x e with h|h;exact Α h;exact Β (Χ a.size h)⟩
def Goes.beh{F S:List Nat}{w w0 b c:World}{p:Nat}{kd d:Int}(h:Goes F w0 b (λF'=>bR K b p F' kd d R A q))(g:ae S b c)(i:ae [] w w0)(j:∀r,r∈S->r<w0.heap.size/\r∉F/\w.heap.size<=r):Goes F w c (λF'=>bR K c p F' kd d R A q):=by
 obtain⟨F',k,l,f⟩:=h;refine⟨F',k.upd g (λr a m=>?_),((i.mono σ).trans l).joined g (λr a=>Β (j r a).2.2),λx n=>by rcases f x n with h|h;exact Α h;exact Β (Χ i.size h)⟩;rcases f r m with e|e
 .exact(j r a).2.1 e
 .grind
def Gc(h:bR K w p F kd d R A q)(c:Int)(k:aW A c=false):
  Calls prog 41 #[(p:Nat),c] w λe w'=>e=.returned (.tuple #[.agg #[(0:Int),.int .u32 0],(171:Int)])/\ae [] w w':=by
 obtain⟨pa,pn,Fa,Fn,rfl,h⟩:=h;have n:=h.c3;have j:=h.head.lt;have g:=K.upd h.nest (((ae.refl [] w).alloc (.cells #[(0:Int),.int .u32 0] 46))) σ;obtain⟨f,m,a,b⟩:=K.has c g;unfold Enters at a;have o:=(b _ (ae.refl _ _)).1;have i:=(b _ (ae.refl _ _)).2;rw[k] at i;clear h b g
 go_enter func41,ntmps41
 go_wp2_with (((with_reducible refine i.mono ?_);rintro e l ⟨rfl,rfl⟩))
 exact bodyPost_ret (v:=.tuple #[.agg #[(0:Int),.int .u32 0],(171:Int)]) (by simp[results,results41,go_sem]) rfl ⟨rfl,β⟩
def JX(h:bR K w p F kd d R A q)(a:Int)(y:aW A a=true)(U:-9223372036854775808<=a/\a<=9223372036854775807)(M:dB A a=none):
  Calls prog 41 #[(p:Nat),a] w λe w'=>e=.returned (.tuple #[.agg #[(0:Int),.int .u32 0],(172:Int)])/\Goes F w w' (λF'=>bR K w' p F' kd d R A q):=by
 obtain⟨a,rfl⟩:∃n:Nat,a=n:=⟨a.toNat,by have:=(aF _ _).1 y;omega⟩;obtain⟨pa,pn,Fa,Fn,rfl,h⟩:=h;have P:=h.c3;have G:=h.head.lt;have c:ae [] w (w.alloc (.cells #[(0:Int),.int .u32 0] 46)):=(ae.refl [] w).alloc _;have u:=K.upd h.nest c σ;obtain⟨f,N,o,s⟩:=K.has a u;obtain⟨O,D,E,t⟩:=K.min a y u;unfold Enters at o E;have Q:=(s _ (ae.refl _ _)).1;have B:=(s _ (ae.refl _ _)).2;have H:=(t _ (ae.refl _ _)).1;have i:=(t _ (ae.refl _ _)).2;rw[y] at B;rw[M,show og none=0 from rfl,show(none:Option Nat).isSome=false from rfl] at i
 have k:w.heap.size∉Fn:=λe=>by have:=K.lt h.nest _ e;omega
 have I:=χ (λj z (l:K.at_ j pn z A) (b:ae Fn (w.alloc (.cells #[(0:Int),.int .u32 0] 46)) j) m g (x:ae [w.heap.size] j g)=>((h.upd c σ).moved l b m).beh x c (λr C=>by simp at C;subst C;exact⟨σ,λe=>by have:=h.lt _ e;omega,Θ _⟩));clear h s u t
 go_enter func41,ntmps41
 go_wp2_with (first
  |((with_reducible refine B.mono ?_);rintro e j ⟨rfl,rfl⟩)
  | ((with_reducible refine i.mono ?_);rintro e g ⟨rfl,z,l,b,m⟩;(have J:g.cell? w.heap.size=some (.int .i64 0):=b.kept γ k);(have L:g.cell? ⟨w.heap.size,1,none⟩=some (.int .u32 0):=b.kept γ k);(have S:g.frozen? w.heap.size=false:=b.ay (v:=.int .i64 0) γ k γ);(have T:g.frozen? ⟨w.heap.size,1,none⟩=false:=b.ay (v:=.int .u32 0) γ k γ)))
 exact bodyPost_ret (v:=.tuple #[.agg #[(0:Int),.int .u32 0],(172:Int)]) (by simp[results,results41,go_sem,J,L]) rfl ⟨rfl,I.out _ _ l b m _ (((ae.refl _ _).setCell (Α σ) _).setCell (Α σ) _)⟩
def Al(h:bR K w p F kd d R A q)(g:Int){m:Nat}(X:dB A g=some m):
  Calls prog 41 #[(p:Nat),g] w λe w'=>e=.returned (.tuple #[.agg #[(m:Int),.int .u32 (R.g m:Int)],(0:Int)])/\Goes F w w' (λF'=>bR K w' p F' kd d R A q):=by
 obtain⟨pa,pn,Fa,Fn,rfl,h⟩:=h;have j:=K.ok h.nest;obtain⟨m1,m2,Z,y⟩:=jU X;have o:aW A g=true:=by rw[←Z];have:=iH j y;simpa using this
 obtain⟨g,rfl⟩:∃n:Nat,g=n:=⟨g.toNat,by have:=(aF _ _).1 o;omega⟩;have N:R.v m=true:=by rw[h.link];exact y
 have D:=h.c2;have c3:=h.c3;have hpl:=h.head.lt;have c:ae [] w (w.alloc (.cells #[(0:Int),.int .u32 0] 46)):=(ae.refl [] w).alloc _;have E:=K.upd h.nest c σ;obtain⟨f,fv,z,B⟩:=K.has g E;obtain⟨f2,fv2,LU,C⟩:=K.min g o E;unfold Enters at z LU;have O:=(B _ (ae.refl _ _)).1;have P:=(B _ (ae.refl _ _)).2;have hm2:=(C _ (ae.refl _ _)).1;have k:=(C _ (ae.refl _ _)).2;rw[o] at P;rw[X,show og (some m)=(m:Int) from rfl,show(some m).isSome=true from rfl] at k;have s:w.heap.size∉Fn:=λe=>by have:=K.lt h.nest _ e;omega
 have G:=h.s3;have ka:=λW (a:ae Fn (w.alloc (.cells #[(0:Int),.int .u32 0] 46)) W)=>Xv ((h.ar.upd c σ).upd a (λx hx O=>G x O hx)) m N;have H:=h.s2;have HG:=χ (λl M (t:K.at_ l pn M A) (a:ae Fn (w.alloc (.cells #[(0:Int),.int .u32 0] 46)) l) u i (L:ae [w.heap.size] l i)=>((h.upd c σ).moved t a u).beh L c (λr U=>by simp at U;subst U;exact⟨σ,λe=>by have:=h.lt _ e;omega,Θ _⟩));clear h B E C j o N y;generalize R.g m=gm at *
 go_enter func41,ntmps41
 go_wp2_with (first
  |((with_reducible refine P.mono ?_);rintro e l ⟨rfl,rfl⟩)
  |((with_reducible refine k.mono ?_);rintro e i ⟨rfl,M,t,a,u⟩;(have Q:i.cell? w.heap.size=some (.int .i64 0):=a.kept γ s);(have S:i.cell? ⟨w.heap.size,1,none⟩=some (.int .u32 0):=a.kept γ s);(have f0:i.frozen? w.heap.size=false:=a.ay (v:=.int .i64 0) γ s γ);(have f1:i.frozen? ⟨w.heap.size,1,none⟩=false:=a.ay (v:=.int .u32 0) γ s γ);(have c2:=a.kept (c.was D) H);(have I:=ka _ a))
  | (((with_reducible refine I.mono ?_));rintro e Y ⟨rfl,b⟩;(have T:=b.was Q);(have t1:=b.was S);(have tf0:=b.ay Q σ f0);(have tf1:=b.ay S σ f1);(have J:=Ε Y _ T)))
 exact bodyPost_ret (v:=.tuple #[.agg #[(m:Int),.int .u32 (gm:Int)],(0:Int)]) (by simp[results,results41,go_sem,T,t1,J]) rfl ⟨rfl,HG.out _ _ t a u _ ((((b.mono σ).setCell (Α σ) _).setCell (Α σ) _).alloc _)⟩
end
section
variable{K:NestQ}{w:World}{p:Nat}{F:List Nat}{kd d:Int}{R:AR}{A:NS}{q:Nat}
def nO(A:NS)(hh:Int):Int:=if aW A hh then(match dB A hh with|some _=>0|none=>172) else 171
def OQ(A:NS)(hh:Int):Int:=match dB A hh with|some m=>(m:Int)|none=>0
def Pp(R:AR)(A:NS)(hh:Int):Int:=match dB A hh with|some m=>(R.g m:Int)|none=>0
def Mj(h:bR K w p F kd d R A q)(a:Int)(n:-9223372036854775808<=a/\a<=9223372036854775807):
  Calls prog 41 #[(p:Nat),a] w λe w'=>e=.returned (.tuple #[.agg #[(OQ A a:Int),.int .u32 (Pp R A a)],(nO A a:Int)])/\Goes F w w' (λF'=>bR K w' p F' kd d R A q):=by
 unfold OQ Pp nO;have c:=h.ok.1;cases f:dB A a with
 |some m=>
  have b:aW A a=true:=by
   obtain⟨o,r,i,j⟩:=jU f;rw[←i];have:=iH c j;simpa using this
  rw[b,Δ rfl];exact Al h a f
 |none=>
  cases b:aW A a with
  |true=>rw[Δ rfl];exact JX h a b n f
  |false=>
   rw[Γ σ];refine(Gc h a b).mono λe w' ⟨k,g⟩=>⟨k,F,h.ag g,g.mono σ,λx l=>Α l⟩
def Ju(h:bR K w p F kd d R A q)(b:Int)(E:-9223372036854775808<=b/\b<=9223372036854775807)(j:dB A b=none):
  Calls prog 19 #[(p:Nat),b] w λe w'=>e=.returned (.tuple #[.agg #[(0:Int),.int .u32 0],(0:Int),(nO A b:Int)])/\Goes F w w' (λF'=>bR K w' p F' kd d R A q):=by
 have f:ae [] w (w.alloc (.cells #[(0:Int),.int .u32 0] 46)):=(ae.refl [] w).alloc _;have k:=Mj (h.ag f) b E;have n:OQ A b=0:=by unfold OQ;rw[j]
 have o:Pp R A b=0:=by unfold Pp;rw[j]
 have s:nO A b≠0:=by unfold nO;rw[j];split<;>simp
 rw[n,o] at k;have t:=h.lt;have g:w.heap.size∉F:=λe=>by have:=t _ e;omega
 have B:=χ (λ(a D:World) (i:Goes F (w.alloc (.cells #[(0:Int),.int .u32 0] 46)) a (λF'=>bR K a p F' kd d R A q)) (m:ae [w.heap.size] a D)=>i.beh m f (λr x=>by simp at x;subst x;exact⟨σ,g,Θ _⟩));generalize nO A b=y at *;have G:(y != 0)=true:=by simpa using s
 clear h j n o s t
 go_enter func19,ntmps19
 go_wp2_with ((((with_reducible refine k.mono ?_));rintro e a ⟨rfl,i⟩;(have c:ae F (w.alloc (.cells #[(0:Int),.int .u32 0] 46)) a:=by obtain⟨_,_,z,_⟩:=i;exact z);(have u:a.cell? w.heap.size=some (.int .i64 0):=c.kept γ g);(have C:a.cell? ⟨w.heap.size,1,none⟩=some (.int .u32 0):=c.kept γ g);(have H:a.frozen? w.heap.size=false:=c.ay (v:=.int .i64 0) γ g γ);(have I:a.frozen? ⟨w.heap.size,1,none⟩=false:=c.ay (v:=.int .u32 0) γ g γ);(have l:=Ε a _ u)))
 exact bodyPost_ret (v:=.tuple #[.agg #[(0:Int),.int .u32 0],(0:Int),(y:Int)]) (by simp[results,results19,go_sem,u,C,l]) rfl ⟨rfl,B.out _ _ i ((((ae.refl _ _).setCell (Α σ) _).setCell (Α σ) _).alloc _)⟩
def zU(h:bR K w p F kd d R A q)(G:Int){m:Nat}(H:dB A G=some m):
  Calls prog 19 #[(p:Nat),G] w λe w'=>e=.returned (.tuple #[.agg #[(m:Int),.int .u32 (R.g m:Int)],.int .i64 (A.c m).k,(0:Int)])/\Goes F w w' (λF'=>bR K w' p F' kd d R A q):=by
 have j:ae [] w (w.alloc (.cells #[(0:Int),.int .u32 0] 46)):=(ae.refl [] w).alloc _;have k:=Al (h.ag j) G H;have I:R.v m=true:=by rw[h.ok.2.2.2];exact(jU H).2.2.2
 have J:=h.lt;have l:w.heap.size∉F:=λe=>by have:=J _ e;omega
 have U:=χ (λ(a f:World) (i:Goes F (w.alloc (.cells #[(0:Int),.int .u32 0] 46)) a (λF'=>bR K a p F' kd d R A q)) (b:ae [w.heap.size] a f)=>i.beh b j (λr Q=>by simp at Q;subst Q;exact⟨σ,l,Θ _⟩));have L:=λW F' (hP:bR K W p F' kd d R A q)=>pQ hP m I;clear h I H J;generalize R.g m=z at *;generalize (A.c m).k=E at *;generalize (A.c m).s=ss at *
 go_enter func19,ntmps19
 go_upto_region 5 with (first
  |(((with_reducible refine k.mono ?_));rintro e a ⟨rfl,i⟩;(have c:ae F (w.alloc (.cells #[(0:Int),.int .u32 0] 46)) a:=by obtain⟨_,_,S,_⟩:=i;exact S);(have y:a.cell? w.heap.size=some (.int .i64 0):=c.kept γ l);(have C:a.cell? ⟨w.heap.size,1,none⟩=some (.int .u32 0):=c.kept γ l);(have M:a.frozen? w.heap.size=false:=c.ay (v:=.int .i64 0) γ l γ);(have N:a.frozen? ⟨w.heap.size,1,none⟩=false:=c.ay (v:=.int .u32 0) γ l γ);(have n:∀W,ae [] a W->Calls prog 42 #[(p:Nat),.agg #[(m:Int),.int .u32 (z:Int)]] W λe w'=>e=.returned (.tuple #[.agg #[(E:Int),.int .u64 ss],(0:Int)])/\ae [] W w':=by obtain⟨T,B,_,_⟩:=i;exact λW g=>L W T (B.ag g)))
  | (((with_reducible refine (n _ β).mono ?_));rintro e f ⟨rfl,b⟩;(have O:f.cell? a.heap.size=some ((m:Int):V):=b.was γ);(have P:f.cell? ⟨a.heap.size,1,none⟩=some (.int .u32 (z:Int)):=b.was γ);(have o:ae [] a f:=ae.trans β b)))
 refine aU (λW=>W.cell? a.heap.size=some ((m:Int):V)/\W.cell? ⟨a.heap.size,1,none⟩=some (.int .u32 (z:Int))/\W.cell? f.heap.size=some ((E:Int):V)/\ae [] a W) ⟨by have:=Ε f _ O;go_simp,by have:=Ε f _ P;go_simp,γ,β⟩ ?_;rintro W ⟨y0,y1,y2,g⟩;have X:=g.was y;have Y:=g.was C;have Z:=g.ay y σ M;have ft1:=g.ay C σ N;have D:=Ε a _ y;have hz2:=o.size;dsimp only at D;have s:¬f.heap.size=w.heap.size:=ω;have t:¬a.heap.size=w.heap.size:=ω;have u:¬w.heap.size=f.heap.size:=ω;have x:¬w.heap.size=a.heap.size:=ω;have HW:=χ g
 clear g y C M N n O P o b L k c
 go_region
 all_goals
  go_wp2;exact bodyPost_ret (v:=.tuple #[.agg #[(m:Int),.int .u32 (z:Int)],(E:Int),(0:Int)]) (by simp[results,results19,go_sem,X,Y,s,t,u,x]) rfl ⟨rfl,U.out _ _ i ((((HW.out.mono σ).setCell (Α σ) _).setCell (Α σ) _).drew)⟩
end
def Ir{w:World}{pa:Nat}{F:List Nat}{R:AR}(h:qi w pa F R):Calls prog 39 #[pa] w λe w'=>e=.returned (R.cnt:Int)/\w'=w:=by
 obtain⟨ga,v,rfl,a⟩:=h;have b:=a.c3;clear a
 go_enter func39,ntmps39
 go_wp2;go_ret;exact⟨rfl,rfl⟩
section
variable{K:NestQ}{w:World}{p pa pn:Nat}{Fa Fn F:List Nat}{kd d:Int}{R:AR}{A:NS}{q:Nat}
def Ea(h:bR K w p F kd d R A q):Calls prog 15 #[(p:Nat)] w λe w'=>e=.returned (R.cnt:Int)/\w'=w:=by
 obtain⟨pa,pn,Fa,Fn,rfl,a⟩:=h;have c:=a.c2;have k:=Ir a.ar;clear a
 go_enter func15,ntmps15
 go_wp2_with (first|(((with_reducible refine k.mono ?_));rintro e b ⟨rfl,rfl⟩)|fail)
 go_ret;exact⟨rfl,rfl⟩
def PY(h:bR K w p F kd d R A q)(a b:Int)(y:aW A a=false\/aW A b=false\/a=b):
  Calls prog 20 #[(p:Nat),a,b] w λe w'=>e=.returned (.int .i64 (if aW A a=false\/aW A b=false then 171 else 174))/\w'=w:=by
 obtain⟨pa,pn,Fa,Fn,rfl,k⟩:=h;have z:=k.c3;obtain⟨f,u,l,m⟩:=K.has a k.nest;obtain⟨v,n,g,o⟩:=K.has b k.nest;unfold Enters at l g;have x:=(m w (ae.refl _ _)).1;have i:=(m w (ae.refl _ _)).2;have r:=(o w (ae.refl _ _)).1;have c:=(o w (ae.refl _ _)).2;clear k m o;obtain⟨rfl,rfl⟩:f=v/\u=n:=by have:=x.symm.trans r;simpa using this
 cases s:aW A a with
 |false=>
  rw[s] at i;rw[Δ (Α rfl)]
  go_enter func20,ntmps20
  go_wp2_with (((with_reducible refine i.mono ?_);rintro e j ⟨rfl,rfl⟩))
  go_ret;exact⟨rfl,rfl⟩
 |true=>
  rw[s] at i;cases t:aW A b with
  |false=>
   rw[t] at c;rw[Δ (Β rfl)]
   go_enter func20,ntmps20
   go_wp2_with (first
    |((with_reducible refine i.mono ?_);rintro e j ⟨rfl,rfl⟩)
    | ((with_reducible refine c.mono ?_);rintro e j ⟨rfl,rfl⟩))
   go_ret;exact⟨rfl,rfl⟩
  |true=>
   rw[t] at c;rw[Γ σ];obtain rfl:a=b:=by
    rcases y with e|e|e
    .rw[s] at e;cases e
    .rw[t] at e;cases e
    .exact e
   go_enter func20,ntmps20
   go_wp2_with (first
    |((with_reducible refine i.mono ?_);rintro e j ⟨rfl,rfl⟩)
    | ((with_reducible refine c.mono ?_);rintro e j ⟨rfl,rfl⟩))
   go_ret;exact⟨rfl,rfl⟩
end
section
variable{K:NestQ}{w:World}{p:Nat}{F:List Nat}{kd d:Int}{R:AR}{A:NS}{q:Nat}
def Tt{R:AR}{x:Nat}(a:R.v x=true)(y:Nat):(iB R x).v y=(R.v y && !decide (y=x)):=by
 show(R.put x (R.g x,false)).v y=_
 rw[AR.Dh]
 by_cases e:y=x
 .rw[Δ ⟨e,AR.Dq a⟩,Ν e];simp
 .grind
def YJ{A:NS}{x:Nat}(c:bY A (x:Int)=true)(y:Nat):bY (aS A (x:Int)) (y:Int)=(bY A (y:Int) && !decide (y=x)):=by
 have a:=zN c y;have b:=fF A (x:Int)
 by_cases e:y=x
 .rw[Δ e] at a;rw[Ν e];have:¬bY (aS A (x:Int)) (y:Int)=true:=λh=>by
   have:=(aj _ _).1 h;rw[a] at this;exact absurd this.2 (by simp[Cl.z])
  simpa using this
 .rw[Γ e] at a;rw[Ξ e];have d:bY (aS A (x:Int)) (y:Int)=true↔bY A (y:Int)=true:=by rw[aj,aj,b,a]
  grind
def QO(R:AR)(x:Nat):(iB R x).sl.length=R.sl.length:=by show(R.put x _).sl.length=_;rw[AR.kV]
def Wy(h:bR K w p F kd d R A q)(c:Int)(C:-9223372036854775808<=c/\c<=9223372036854775807)(m:dB A c=none):
  Calls prog 22 #[(p:Nat),c] w λe w'=>e=.returned (.tuple #[.agg #[(0:Int),.int .u32 0],(0:Int),(nO A c:Int)])/\Goes F w w' (λF'=>bR K w' p F' kd d R A q):=by
 have f:ae [] w (w.alloc (.cells #[(0:Int),.int .u32 0] 46)):=(ae.refl [] w).alloc _;have k:=Ju (h.ag f) c C m;have n:nO A c≠0:=by unfold nO;rw[m];split<;>simp
 have o:=h.lt;have g:w.heap.size∉F:=λe=>by have:=o _ e;omega
 have y:=χ (λ(a B:World) (i:Goes F (w.alloc (.cells #[(0:Int),.int .u32 0] 46)) a (λF'=>bR K a p F' kd d R A q)) (l:ae [w.heap.size] a B)=>i.beh l f (λr t=>by simp at t;subst t;exact⟨σ,g,Θ _⟩));generalize nO A c=u at *;have D:(u != 0)=true:=by simpa using n
 clear h m n o
 go_enter func22,ntmps22
 go_wp2_with ((((with_reducible refine k.mono ?_));rintro e a ⟨rfl,i⟩;(have b:ae F (w.alloc (.cells #[(0:Int),.int .u32 0] 46)) a:=by obtain⟨_,_,x,_⟩:=i;exact x);(have s:a.cell? w.heap.size=some (.int .i64 0):=b.kept γ g);(have z:a.cell? ⟨w.heap.size,1,none⟩=some (.int .u32 0):=b.kept γ g);(have E:a.frozen? w.heap.size=false:=b.ay (v:=.int .i64 0) γ g γ);(have G:a.frozen? ⟨w.heap.size,1,none⟩=false:=b.ay (v:=.int .u32 0) γ g γ);(have j:=Ε a _ s)))
 exact bodyPost_ret (v:=.tuple #[.agg #[(0:Int),.int .u32 0],(0:Int),(u:Int)]) (by simp[results,results22,go_sem,s,z,j]) rfl ⟨rfl,y.out _ _ i ((((ae.refl _ _).setCell (Α σ) _).setCell (Α σ) _).alloc _)⟩
def bR.out{kd d:Int}{m:Nat}{k:World}{pa pn:Nat}{Fa Fn:List Nat}(h:Dt K w p pa pn Fa Fn kd d R A q)(t:bY A (m:Int)=true){f:List Nat}(u:K.at_ k pn f (aS A m))(l:ae Fn w k)(v:∀x,x∈f->x∈Fn\/w.heap.size<=x)
  {n g:World} (a:ae [] k n) {i:List Nat} (E:qi g pa i (iB R m)) (c:ae Fa n g) (o:∀x,x∈i->x∈Fa\/n.heap.size<=x):Goes (p::(Fa++Fn)) w g (λF'=>bR K g p F' kd d (iB R m) (aS A m) q):=by
 have z:=h.ar.lt;have B:=K.lt u;have r:=a.size;have s:=l.size;have C:R.v m=true:=by rw[h.link];exact t
 have D:=h.head.lt;have j:∀x,x∈Fa->x∉f:=λx b e=>by rcases v x e with e|e;exact h.s3 x b e;have:=z x b;omega
 refine⟨p::(i++f),⟨pa,pn,i,f,rfl,⟨((h.head.upd l h.s2).upd a σ).upd c h.s1,E,K.upd (K.upd u a σ) c j,λe=>?_,λe=>?_,λx F G=>?_,?_,λy=>?_⟩⟩,?_,λx b=>?_⟩
 .rcases o _ e with e|e
  .exact h.s1 e
  .omega
 .rcases v _ e with e|e
  .exact h.s2 e
  .omega
 .grind
 .rw[QO,fF];exact h.len
 .rw[Tt C,YJ t,h.link]
 .exact((l.mono (λx b=>by simp[b])).trans (a.mono σ)).trans (c.mono (λx b=>by simp[b]))
 .grind
end
section
variable{K:NestQ}{w:World}{p:Nat}{F:List Nat}{kd d:Int}{R:AR}{A:NS}{q:Nat}
def Goes.chain{F G S:List Nat}{w W b c:World}{R':AR}{A':NS}{e:Nat}(f:ae F w W)(k:∀x,x∈G->x∈F\/w.heap.size<=x)(l:Goes G W b (λF'=>bR K b p F' kd d R' A' e))(a:ae S b c)(m:∀r,r∈S->r∉G/\r<W.heap.size/\w.heap.size<=r):
  Goes F w c (λF'=>bR K c p F' kd d R' A' e):=by
 obtain⟨g,h,i,j⟩:=l;have hs:=f.size;refine⟨g,h.upd a (λr a n=>?_),(f.joined i k).joined a (λr a=>Β (m r a).2.2),λx o=>?_⟩
 .grind
 .grind
def Rj(h:bR K w p F kd d R A q)(l:Int){m:Nat}(B:dB A l=some m):
  Calls prog 22 #[(p:Nat),l] w λe w'=>e=.returned (.tuple #[.agg #[(m:Int),.int .u32 (R.g m:Int)],.int .i64 (A.c m).k,(0:Int)])/\Goes F w w' (λF'=>bR K w' p F' kd d (iB R m) (aS A m) q):=by
 obtain⟨l,rfl⟩:∃n:Nat,l=n:=⟨l.toNat,by have:=(jU B).1;omega⟩;have U:ae [] w (w.alloc (.cells #[(0:Int),.int .u32 0] 46)):=(ae.refl [] w).alloc _;have k:=zU (h.ag U) l B;have y:=(jU B).2.2.2;have hv:R.v m=true:=by rw[h.ok.2.2.2];exact y
 have hb:-9223372036854775808<=(l:Int)/\(l:Int)<=9223372036854775807:=by
  obtain⟨m1,m2,m3,m4⟩:=jU B;have:=iH h.ok.1 m4;have h4:=(aF _ _).1 this;have h5:=h.ok.1.h1;rw[show((m:Nat):Int).toNat=m by omega,m3] at h4;omega
 have G:uh A l=aS A m:=by unfold uh;rw[B]
 have Ii:=h.lt;have D:w.heap.size∉F:=λe=>by have:=Ii _ e;omega
 have Y:=χ (ψ y (ψ hv (ψ hb (ψ G B))));clear h B y hv hb G;generalize I:R.g m=gm at *;generalize (A.c m).k=kk at *;have Z:=χ I;clear I
 go_enter func22,ntmps22
 go_upto_region 4 with((((with_reducible refine k.mono ?_));rintro e b ⟨rfl,hg⟩;(have a:ae F (w.alloc (.cells #[(0:Int),.int .u32 0] 46)) b:=by obtain⟨_,_,h2,_⟩:=hg;exact h2);(have J:b.cell? w.heap.size=some (.int .i64 0):=a.kept γ D);(have q1:b.cell? ⟨w.heap.size,1,none⟩=some (.int .u32 0):=a.kept γ D);(have f0:b.frozen? w.heap.size=false:=a.ay (v:=.int .i64 0) γ D γ);(have f1:b.frozen? ⟨w.heap.size,1,none⟩=false:=a.ay (v:=.int .u32 0) γ D γ);(have hrl:=Ε b _ J)))
 refine aU (λW=>W.cell? b.heap.size=some ((m:Int):V)/\W.cell? ⟨b.heap.size,1,none⟩=some (.int .u32 (gm:Int))/\ae [] b W) ⟨γ,γ,β⟩ ?_;rintro W ⟨y0,y1,j⟩;obtain⟨F1,⟨pa,pn,Fa,Fn,rfl,g⟩,E,i⟩:=hg;have o:=g.upd j σ;have c2:=o.c2;have c3:=o.c3;have H:=g.lt;have z:w.heap.size∉p::(Fa++Fn):=λe=>by rcases i _ e with e|e;exact D e;simp at e;omega
 have s:b.heap.size∉p::(Fa++Fn):=λe=>by have:=H _ e;omega
 obtain⟨f,fv,Q,T⟩:=K.extract l m Y.out.2.2.2.2 o.nest;unfold Enters at Q;have hm:=(T _ (ae.refl _ _)).1;have hc:=(T _ (ae.refl _ _)).2;have t0:=j.was J;have t1:=j.was q1;have ft0:=j.ay J σ f0;have ft1:=j.ay q1 σ f1;have L:w.heap.size∉Fn:=λe=>z (by simp[e]);have Kk:b.heap.size∉Fn:=λe=>s (by simp[e]);have ace:=o.s2;have M:w.heap.size∉Fa:=λe=>z (by simp[e]);have t:b.heap.size∉Fa:=λe=>s (by simp[e]);have HZ:=χ (ψ o (ψ a (ψ j (ψ i g))))
 have ka:∀(C:World) (c:ae Fn W C) (X:World) (hX:ae [] C X),Calls prog 43 #[(pa:Nat),.agg #[(m:Int),.int .u32 (gm:Int)]] X λe w'=>e=.returned (0:Int)/\Goes Fa X w' (λF'=>qi w' pa F' (iB R m)):=λC c X hX=>by
  have:=CQ ((o.ar.upd c (λx hx hm=>o.s3 x hm hx)).upd hX σ) m Y.out.2.1;rw[Z.out] at this;exact this
 clear T o a j E i g J q1 f0 f1 H Ii D k
 go_upto_region 5 with(((with_reducible refine hc.mono ?_);rintro e C ⟨rfl,xn,KQ,c,N⟩;(have z0:=c.kept y0 Kk);(have z1:=c.kept y1 Kk);(have z2:=c.kept c2 ace);(have s0:=c.kept t0 L);(have s1:=c.kept t1 L);(have sf0:=c.ay t0 L ft0);(have sf1:=c.ay t1 L ft1)))
 have ka5:=ka C c C.drew ((ae.refl _ _).drew);clear ka
 go_region_law
  (first
   | (go_simp;(with_reducible refine ka5.mono ?_);rintro e w6 ⟨rfl,OH,O,u,P⟩;(have v0:=u.kept z0 t);(have v1:=u.kept z1 t);(have r0:=u.kept s0 M);(have r1:=u.kept s1 M);(have rf0:=u.ay s0 M sf0);(have rf1:=u.ay s1 M sf1)))
 all_goals
  go_wp2;obtain⟨o,a,j,i,g⟩:=HZ.out;have Jq:=j.size;have hUF:ae F w W:=(ae.trans ((ae.refl _ _).alloc _) a).trans (j.mono σ);refine bodyPost_ret (v:=.tuple #[.agg #[(m:Int),.int .u32 (gm:Int)],(kk:Int),(0:Int)]) (by simp[results,results22,go_sem,r0,r1]) rfl ⟨rfl,?_⟩;exact Goes.chain hUF (λx hx=>by rcases i x hx with e|e;exact Α e;simp at e;exact Β ω) (bR.out o Y.out.1 KQ c N ((ae.refl _ _).drew) O u P) (S:=[w.heap.size]) (((ae.refl _ _).setCell (Α σ) _).setCell (Α σ) _) (λr hr=>by simp at hr;subst hr;exact⟨z,ω,Θ _⟩)
end
section
variable{K:NestQ}{w:World}{p:Nat}{F:List Nat}{kd d:Int}{R:AR}{A:NS}{q:Nat}
def Wq{A:NS}{x:Nat}{k s:Int}(y:Nat):bY (aA A (x:Int) k s) (y:Int)=bY A (y:Int):=by
 by_cases b:iX A (x:Int) k s=true
 .have a:=tN b;have c:=(aj _ _).1 a;have d:=iW b c.1 y;have f:=gD A (x:Int) k s;have e:bY (aA A (x:Int) k s) (y:Int)=true↔bY A (y:Int)=true:=by rw[aj,aj,f,d]
  grind
 .unfold aA;rw[Γ b]
def Zv{A:NS}{x:Nat}{k:Int}(a:bY A (x:Int)=true)(b:k<=(A.c x).k):iX A (x:Int) k (A.c x).s=true:=by
 unfold iX ry
 grind
def Wd(h:bR K w p F kd d R A q)(x:Nat)(k:Int)(G:R.v x=true)(T:k<=(A.c x).k)(hkb:-9223372036854775808<=k):
  Calls prog 31 #[(p:Nat),.agg #[(x:Int),.int .u32 (R.g x:Int)],k] w λe w'=>e=.returned (0:Int)/\Goes F w w' (λF'=>bR K w' p F' kd d R (aA A (x:Int) k (A.c x).s) q):=by
 have j:bY A (x:Int)=true:=by rw[←h.ok.2.2.2];exact G
 have l:=h.ok.1.key x;have m:-9223372036854775808<=k/\k<=9223372036854775807/\0<=(A.c x).s/\(A.c x).s<=18446744073709551615:=ω;have J:=λW (i:ae [] w W)=>pQ (h.ag i) x G;have c:=Zv j T;have L:=χ (ψ c (λy=>Wq (A:=A) (x:=x) (k:=k) (s:=(A.c x).s) y));have Ii:=h.lt;obtain⟨pa,pn,Fa,Fn,rfl,h⟩:=h;have M:=h.c3;have v:=χ (ψ h m);have Y:decide (k > (A.c x).k)=false:=ζ;clear h G j m c l;generalize D:(A.c x).k=kk at *;generalize E:(A.c x).s=S at *;generalize R.g x=gx at *;clear D E T
 go_enter func31,ntmps31
 go_upto_region 6 with((((with_reducible refine(J _ β).mono ?_));rintro e o ⟨rfl,g⟩;(have N:o.cell? w.heap.size=some ((x:Int):V):=g.was γ);(have n:ae [] w o:=ae.trans β g)))
 have B:=Ε o _ N;refine aU (λW=>W.cell? w.heap.size=some ((x:Int):V)/\W.cell? ⟨o.heap.size,1,none⟩=some (.int .u64 S)/\ae [] w W) ⟨γ,γ,by have:=n;exact β⟩ ?_;rintro W ⟨y0,y1,i⟩;have z3:=i.was M;have O:=K.upd v.out.1.nest i σ;obtain⟨f,fv,t,u⟩:=K.nC x k S v.out.2 L.out.1 O;unfold Enters at t;have P:=(u W.drew ((ae.refl _ _).drew)).1;have Z:=(u W.drew ((ae.refl _ _).drew)).2;have Q:=χ i;clear i O u N n g B J M
 go_region_law
  (first
   | (go_simp;(with_reducible refine Z.mono ?_);rintro e U ⟨rfl,H,r,X,I⟩))
 all_goals
  go_wp2;go_ret;have b:=v.out.1.upd Q.out σ;have C:ae Fn W U:=((ae.refl Fn W).drew).trans X;refine⟨rfl,Goes.after ?_ Q.out⟩;refine⟨p::(Fa++H),⟨pa,pn,Fa,H,rfl,b.Oo r C I (gD _ _ _ _) (b.ar.upd C (λz a P=>b.s3 z P a)) rfl (λy=>by rw[L.out.2];exact b.link y)⟩,C.mono (λz a=>by simp[a]),λz a=>?_⟩;simp only[ρ,τ] at a ⊢;rcases a with a|a|a
  .exact Α (Α a)
  .exact Α (Β (Α a))
  .rcases I z a with e|e
   .exact Α (Β (Β e))
   .exact Β e
end
def Zl{A:NS}{a b:Int}(d:fQ A a b=true)(y:Nat):bY (az A a b) (y:Int)=bY A (y:Int):=by
 have c:=(dI _ _ _).1 d;have f:=(aF _ _).1 c.1;have g:=(aF _ _).1 c.2.1;have e:bY (az A a b) (y:Int)=true↔bY A (y:Int)=true:=by
  rw[aj,aj,eU,yU d]
  grind
 grind
section
variable{K:mE}{w:World}{p pa pn:Nat}{Fa Fn F:List Nat}{kd d:Int}{R:AR}{A:NS}{q:Nat}
def UD(h:bR K.toNestQ w p F kd d R A q)(x:Int)(n:-9223372036854775808<=x/\x<=9223372036854775807):
  Calls prog 32 #[(p:Nat),x] w λe w'=>e=.returned (.tuple #[.int .i64 (if aW A x=true then(cZ A x:Int) else 0),.int .i64 (if aW A x=true then 0 else 171)])/\w'=w:=by
 obtain⟨pa,pn,Fa,Fn,rfl,b⟩:=h;have u:=b.c3;obtain⟨f,s,g,i⟩:=K.has x b.nest;obtain⟨t,o,a,j⟩:=K.len x n b.nest;unfold Enters at g a;have v:=(i w (ae.refl _ _)).1;have c:=(i w (ae.refl _ _)).2;have r:=(j w (ae.refl _ _)).1;have k:=(j w (ae.refl _ _)).2;clear b i j n;cases m:aW A x with
 |false=>
  rw[m] at c;rw[Γ σ,Γ σ]
  go_enter func32,ntmps32
  go_wp2_with (first|((with_reducible refine c.mono ?_);rintro e l ⟨rfl,rfl⟩)|fail)
  go_ret2;exact⟨rfl,rfl⟩
 |true=>
  rw[m] at c;rw[Δ rfl,Δ rfl]
  go_enter func32,ntmps32
  go_wp2_with (first|((with_reducible refine c.mono ?_);rintro e l ⟨rfl,rfl⟩)|((with_reducible refine k.mono ?_);rintro e l ⟨rfl,rfl⟩)|fail)
  go_ret2;exact⟨rfl,rfl⟩
def Dt.aeS(h:Dt K.toNestQ w p pa pn Fa Fn kd d R A q){w':World}{A':NS}(i:Goes Fn w w' (λF'=>K.at_ w' pn F' A'))(j:A'.cs.length=A.cs.length)(k:∀x:Nat,bY A' (x:Int)=bY A (x:Int)):Goes (p::(Fa++Fn)) w w' (λF'=>bR K.toNestQ w' p F' kd d R A' q):=by
 obtain⟨e,b,c,f⟩:=i;refine⟨p::(Fa++e),⟨pa,pn,Fa,e,rfl,h.Oo b c f j (h.ar.upd c (λz a g=>h.s3 z g a)) rfl (λy=>by rw[k];exact h.link y)⟩,c.mono (λz a=>by simp[a]),λz a=>?_⟩;simp only[ρ,τ] at a ⊢
 grind
def Sl(h:bR K.toNestQ w p F kd d R A q)(a b:Nat)(k:fQ A a b=true):
  Calls prog 20 #[(p:Nat),(a:Int),(b:Int)] w λe w'=>e=.returned (0:Int)/\Goes F w w' (λF'=>bR K.toNestQ w' p F' kd d R (az A a b) q):=by
 obtain⟨pa,pn,Fa,Fn,rfl,c⟩:=h;have L:=c.c3;have j:=(dI _ _ _).1 k;obtain⟨f,z,m,n⟩:=K.has (a:Int) c.nest;obtain⟨B,o,g,r⟩:=K.has (b:Int) c.nest;obtain⟨J,C,D,s⟩:=K.CY a b k c.nest;unfold Enters at m g D;have E:=(n w (ae.refl _ _)).1;have y:=(n w (ae.refl _ _)).2;have t:=(r w (ae.refl _ _)).1;have i:=(r w (ae.refl _ _)).2;have G:=(s w (ae.refl _ _)).1;have u:=(s w (ae.refl _ _)).2;rw[j.1] at y;rw[j.2.1] at i;have H:((a:Int) == (b:Int))=false:=by have:=j.2.2;simpa using this
 have I:=χ (λw' (l:Goes Fn w w' (λF'=>K.at_ w' pn F' (az A a b)))=>c.aeS l (eU _ _ _) (λx=>Zl k x));clear c n r s j k;obtain⟨rfl,rfl⟩:f=B/\z=o:=by have:=E.symm.trans t;simpa using this
 go_enter func20,ntmps20
 go_wp2_with (first
  |((with_reducible refine y.mono ?_);rintro e v ⟨rfl,rfl⟩)
  |((with_reducible refine i.mono ?_);rintro e v ⟨rfl,rfl⟩)
  | ((with_reducible refine u.mono ?_);rintro e v ⟨rfl,l⟩))
 go_ret;exact⟨rfl,I.out _ l⟩
def zB(h:bR K.toNestQ w p F kd d R A q)(x g:Int)(J:0<=g/\g<=4294967295)(t:gL R x g=false):
  Calls prog 42 #[(p:Nat),.agg #[x,.int .u32 g]] w λe w'=>e=.returned (.tuple #[.agg #[(0:Int),.int .u64 0],(33:Int)])/\ae [] w w':=by
 obtain⟨pa,pn,Fa,Fn,rfl,h⟩:=h;have n:=λW (I:ae [] w W)=>pI (h.ar.upd I σ) x g J;rw[t] at n;have l:=h.c2;clear h t
 go_enter func42,ntmps42
 go_upto_region 1 with(fail)
 refine aU (λW=>W.cell? w.heap.size=some (x:V)/\W.cell? ⟨w.heap.size,1,none⟩=some (.int .u32 g)/\W.cell? (w.heap.size+1:Nat)=some (.int .i64 0)/\W.cell? ⟨w.heap.size+1,1,none⟩=some (.int .u64 0)/\W.frozen? (w.heap.size+1:Nat)=false/\W.frozen? ⟨w.heap.size+1,1,none⟩=false/\ae [] w W) ⟨γ,γ,γ,γ,γ,γ,β⟩ ?_;rintro W ⟨i,o,c,f,j,k,b⟩;have r:=λX (a:ae [] W X)=>n X (b.trans a);have y:∀X,ae [] W X->X.cell? w.heap.size=some (x:V):=λX h=>h.was i;have z:∀X,ae [] W X->X.cell? ⟨w.heap.size,1,none⟩=some (.int .u32 g):=λX h=>h.was o
 have B:∀X,ae [] W X->X.cell? ⟨p,2,none⟩=some ((pa:Nat):V):=λX h=>h.was (b.was l);have s:=χ (ψ b (ψ i (ψ c (ψ f (ψ j k)))));clear b i o c f j k n l
 go_region_held3 (ae [] W) (exact ν)
  (first
   | (((with_reducible refine (r _ ν).mono ?_));rintro e u ⟨rfl,m⟩;(have C:ae [] W u:=ae.trans ν m)))
 go_upto_region 2 with(fail)
 obtain⟨b,i,c,f,j,k⟩:=s.out;refine aU (λX=>ae [] W X) β ?_;intro X a;have D:=a.was c;have E:=a.was f;have G:=a.ay c σ j;have H:=a.ay f σ k;have L:=b.trans a;clear b i c f j k a r y z B s;go_wp2;exact bodyPost_ret (v:=.tuple #[.agg #[(0:Int),.int .u64 0],(33:Int)]) (by simp[results,results42,go_sem,D,E]) rfl ⟨rfl,ν⟩
